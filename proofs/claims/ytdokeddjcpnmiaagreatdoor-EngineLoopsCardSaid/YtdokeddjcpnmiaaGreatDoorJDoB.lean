import Derived.Test.YtdokeddjcpnmiaaGreatDoorJShape
import Derived.Deep.LoopGhost
import Derived.Deep.Cut
import Derived.Lib.OthersKept
import Derived.Shelf.SlGeneric
import Derived.Ground.SlgnProg
import Derived.Shelf.SlicesG.Delete
import Derived.Test.YtdokeddjcpnmiaaGreatDoorProg
import Derived.Lib.OwnBridge
/- The contract of stack's Do, at a word that takes some cells and puts some of them. -/
namespace Go.Proofs.YtdokeddjcpnmiaaGreatDoor
open Go.RowKit

theorem places_size (ps : List Nat) : (places ps).size = ps.length := by simp [places, ByteArray.size]
theorem places_at (ps : List Nat) (hps : ∀ i ∈ ps, i < 4) (j : Nat) (hj : j < (places ps).size) : ((places ps)[j]'hj).toNat = 97 + ps.getD j 0 := by
  have hl : j < ps.length := by rw [places_size] at hj; exact hj
  have h1 : (places ps)[j]'hj = UInt8.ofNat (97 + ps.getD j 0) := by
    have : (places ps)[j]'hj = (ps.map fun i => UInt8.ofNat (97 + i)).toArray[j]'(by simpa using hl) := rfl
    rw [this]
    simp [List.getD, List.getElem?_eq_getElem hl]
  have h2 := hps (ps.getD j 0) (by rw [List.getD, List.getElem?_eq_getElem hl]; exact List.getElem_mem hl)
  rw [h1]
  generalize ps.getD j 0 = x at h2
  simp
  omega

theorem iter_touch {F : List Nat} {a w : World} (h : Touch F a w) {k : Nat} (hk : k ∈ F ∨ a.heap.size ≤ k) (s : ByteArray) (pos : Nat) : Touch F a (w.iterAt k s pos) :=
  h.trans (G := [k]) ⟨rfl, rfl, rfl, by rw [Lib.iterAt_size]; exact Nat.le_refl _, fun i _ hi => Lib.iterAt_other w k i s pos (by simpa using hi)⟩ (by simpa using hk)
theorem StackAt.iter {w : World} {b : Nat} {F : List Nat} {L : List Int} (h : StackAt w b F L) {k : Nat} (hk : k ∉ F) (s : ByteArray) (pos : Nat) : StackAt (w.iterAt k s pos) b F L :=
  h.touch (iter_touch (Touch.refl [k] w) (by simp) s pos) (by simp; rintro f hf rfl; exact hk hf)

/-- what the loop of Do has made after j rounds -/
def DoAt (w : World) (b : Nat) (F : List Nat) (A : List Int) (v : Value) (M : List Int) (it : Nat) (s : ByteArray) (ps : List Nat) (j : Nat) (wr : World) : Prop :=
  ∃ F', StackAt wr b F' (A ++ (ps.take j).map fun i => M.getD i 0) ∧ Touch F w wr ∧ Sub w F F' ∧ it ∉ F' ∧ w.heap.size ≤ it ∧ (∀ g ∈ rowOf v, g ∉ F' ∧ g ≠ it ∧ w.heap.size ≤ g) ∧ wr.ownsRow 0 33 1 v M.length (cells M) ∧ wr.heap[it]? = some (.stringIter s j)

set_option maxRecDepth 100000 in
set_option maxHeartbeats 4000000 in
theorem Do_shape (w : World) (b : Nat) (F : List Nat) (L : List Int) (h : StackAt w b F L) (op : Int) (t : Nat) (ps : List Nat) (hS : ∀ w, ShapeSays op t (places ps) w) (hps : ∀ i ∈ ps, i < t) (ht4 : t ≤ 4) (hp6 : ps.length ≤ 6)
    (h40 : ¬ op = 40) (h41 : ¬ op = 41) (h42 : ¬ op = 42) (h35 : ¬ op = 35) (hL : L.length ≤ 128) (ht : t ≤ L.length) (hroom : L.length - t + ps.length ≤ 128) :
    Calls Tryz.prog 96 #[.pointer (some ⟨b, 0, none⟩), .int .i64 op] w fun e w' =>
      ∃ F', e = .returned (.int .i64 0) ∧ StackAt w' b F' (L.take (L.length - t) ++ ps.map fun i => (L.drop (L.length - t)).getD i 0) ∧ Touch F w w' ∧ Sub w F F' := by
  obtain ⟨s, hs⟩ : ∃ s, places ps = s := ⟨_, rfl⟩
  have hsz : s.size = ps.length := by rw [← hs, places_size]
  have hat : ∀ j (hj : j < s.size), (s[j]'hj).toNat = 97 + ps.getD j 0 := by
    subst hs
    exact places_at ps (fun i hi => by have := hps i hi; omega)
  rw [hs] at hS
  obtain ⟨v0, hb0, hF0, hnb0, hr0⟩ := id h
  obtain ⟨a0, c0, rfl⟩ := row_value hr0
  have HL := Lib.hid h.lt
  have H := Lib.hid h
  have g0 := hb0.cell 0
  obtain ⟨n, hn⟩ : ∃ n, L.length = n := ⟨_, rfl⟩
  have Hh := Lib.hid (And.intro hps hat)
  have Hn := Lib.hid hn
  rw [hn] at hL ht hroom g0 ⊢
  have Hb := Lib.hid hb0
  clear h hb0 hF0 hnb0 hr0 hps hat hn hs
  obtain ⟨m, hm⟩ : ∃ m, n - t = m := ⟨_, rfl⟩
  rw [hm] at hroom ⊢
  have e1 : ¬ (n : Int) < t := by omega
  have e2 : IntKind.i64.wrap ((n : Int) - t) = m := by rw [IntKind.wrap_i64]; omega
  have e3 : IntKind.i64.wrap ((m : Int) + (s.size : Int)) = (m + ps.length : Nat) := by rw [IntKind.wrap_i64, hsz]; omega
  have e4 : ¬ ((m + ps.length : Nat) : Int) > 128 := by omega
  go_enter Tryz.func96, Tryz.ntmps96
  have b40 : (op == 40) = false := by simp [h40]
  have b41 : (op == 41) = false := by simp [h41]
  have b42 : (op == 42) = false := by simp [h42]
  have b35 : (op == 35) = false := by simp [h35]
  go_wp2_with fail
  refine (hS _).mono ?_
  rintro _ w1 ⟨rfl, t1⟩
  go_upto_region 8 with (fail)
  have hFw : ∀ f, f ∈ F → f < w1.heap.size := fun f hf => Nat.lt_of_lt_of_le (HL.out f hf) t1.size
  have hSA : StackAt (w1.alloc (.cells #[.int .i64 t, .string s] 177)) b F L := (H.out.touch t1 (by simp)).alloc _
  have bA := Blk.new w1 177 #[.int .i64 t, .string s]
  have tA := t1.alloc (.cells #[.int .i64 t, .string s] 177)
  have hbF : b ∈ F := by obtain ⟨v, _, rfl, _⟩ := H.out; simp
  have g1 : (w1.alloc (.cells #[.int .i64 t, .string s] 177)).cell? ⟨b, 0, none⟩ = some (.slice a0 n c0) := (tA.cell (p := ⟨b, 0, none⟩) (HL.out b hbF) (by simp)).trans g0
  have hFS : w1.heap.size ∉ F := fun hf => Nat.lt_irrefl _ (hFw _ hf)
  have hSw : w.heap.size ≤ w1.heap.size := t1.size
  generalize hwA : w1.alloc (.cells #[.int .i64 t, .string s] 177) = wA at *
  generalize hBS : w1.heap.size = BS at *
  clear hwA hBS t1 g0 Hb
  have hT := Take_ok wA b F L hSA t (by rw [Hn.out]; omega) (by rw [Hn.out]; omega)
  rw [Hn.out, hm] at hT
  have hML : (L.drop m).length = t := by rw [List.length_drop, Hn.out]; omega
  have z0 := bA.cell 0
  have z1 := bA.cell 1
  have HA := Lib.hid tA
  have HS := Lib.hid hSA
  clear tA hSA
  go_wp2_with fail
  refine hT.mono ?_
  rintro _ w2 ⟨v, rfl, hown, hS2, t2⟩
  have hBA := bA.lt
  have y0 := (t2.cell (p := ⟨BS, 0, none⟩) hBA hFS).trans z0
  have y1 := (t2.cell (p := ⟨BS, 1, none⟩) hBA hFS).trans z1
  have T2 := Lib.hid ((HA.out.mono (G := F) (by simp)).trans t2 (fun g hg => .inl hg))
  clear hT z0 z1 bA g1
  go_upto_region 19 with (fail)
  have hAlen : (L.take m).length = m := by rw [List.length_take, Hn.out]; omega
  have D0 : DoAt w b F (L.take m) v (L.drop m) w2.heap.size s ps 0 (w2.iter s 0) := by
    refine ⟨F, by rw [List.take_zero, List.map_nil, List.append_nil]; exact hS2.alloc _, T2.out.alloc _, Sub.refl _ _, fun hf => Nat.lt_irrefl _ (Nat.lt_of_lt_of_le (HL.out _ hf) T2.out.size), T2.out.size, ?_, ?_, World.iter_heap w2 s 0⟩
    · intro g hg
      have h1 := hown.lt g (rowOf_mem.1 hg)
      have h2 := HA.out.size
      exact ⟨fun hf => by have := HL.out _ hf; omega, by omega, by omega⟩
    · rw [hML]
      exact (Go.Joins.ownsRow_le hown (Nat.zero_le _)).alloc _
  have hv : ∃ a c, v = .slice a t c := row_value (Go.Joins.ownsRow_le hown (Nat.zero_le _))
  obtain ⟨av, cv, rfl⟩ := hv
  generalize w2.iter s 0 = W0 at D0 ⊢
  generalize w2.heap.size = it at D0 ⊢
  generalize hA : L.take m = A at *
  generalize hM : L.drop m = M at *
  clear hS2 hown t2 y0 y1 T2 HA HS HL H hS hbF hFS hFw hSw hBA
  have HAM := Lib.hid (And.intro hA hM)
  clear hA hM
  go_loopg [11] ps.length (fun gf _ wr => ∃ j, j ≤ ps.length ∧ ps.length ≤ j + gf ∧ DoAt w b F A (.slice av t cv) M it s ps j wr)
  case atStart => exact ⟨0, by omega, by omega, D0⟩
  case round =>
    obtain ⟨j, hj, hgj, hD⟩ := hrel
    clear D0
    by_cases hlt : j < ps.length
    · obtain ⟨g', rfl⟩ : ∃ g', gk = g' + 1 := ⟨gk - 1, by omega⟩
      have hjs : j < s.size := by omega
      obtain ⟨p, hp⟩ : ∃ p, ps.getD j 0 = p := ⟨_, rfl⟩
      have hpt : p < t := by
        have := Hh.out.1 (ps.getD j 0) (by rw [List.getD, List.getElem?_eq_getElem hlt]; exact List.getElem_mem hlt)
        omega
      have hch := Hh.out.2 j hjs
      rw [hp] at hch
      obtain ⟨F', d1, d2, d3, d4, d5, d6, d7, d8⟩ := hD
      have hnx : ∀ ty, (Instr.next (.pointer (some ⟨it, 0, none⟩)) true ty).run Tryz.prog wr = _ := fun ty => Lib.run_next_ascii_at wr it s j ty d8 hjs (by omega)
      rw [hch] at hnx
      have i8 := Lib.iterAt_heap wr it s j (j + 1) d8
      have i1 := d1.iter d4 s (j + 1)
      have i2 := iter_touch d2 (k := it) (.inr d5) s (j + 1)
      have i7 : (wr.iterAt it s (j + 1)).ownsRow 0 33 1 (.slice av t cv) M.length (cells M) := row_touch d7 (iter_touch (Touch.refl [it] wr) (by simp) s (j + 1)) (fun g hg hf => (d6 g hg).2.1 (by simpa using hf))
      generalize wr.iterAt it s (j + 1) = W at *
      obtain ⟨g, rfl⟩ : ∃ g, av = some ⟨g, 0, none⟩ := by
        rcases Go.Joins.ownsRow_forms i7 with ⟨e, e'⟩ | ⟨g, cap, e⟩
        · omega
        · cases e; exact ⟨g, rfl⟩
      have i7' := i7
      rw [hML] at i7'
      have hcell : W.cell? ⟨g, p, none⟩ = some (.int .i64 (M.getD p 0)) := by
        rw [i7'.cellAt p (by omega)]
        exact cells_get M p (by omega)
      obtain ⟨x, hx⟩ : ∃ x, M.getD p 0 = x := ⟨_, rfl⟩
      rw [hx] at hcell
      have hPu := Push_ok W b F' _ i1 (by rw [List.length_append, List.length_map, List.length_take, hAlen]; omega) x
      have K := Lib.hid (And.intro i8 (And.intro i2 (And.intro i7 (And.intro d3 (And.intro d4 (And.intro d5 d6))))))
      clear d1 d2 d3 d4 d5 d6 d7 d8 i8 i1 i2 i7 i7' hch
      have ep : IntKind.i32.wrap ((97 + p : Nat) - 97) = p := by rw [IntKind.wrap_i32]; omega
      have Hx := Lib.hid (And.intro hx hp)
      clear hx hp
      go_wp2_with fail
      refine hPu.mono ?_
      rintro _ w3 ⟨F'', rfl, hs3, t3, hsub3⟩
      obtain ⟨i8, i2, i7, d3, d4, d5, d6⟩ := K.out
      have hD3 : DoAt w b F A (.slice (some ⟨g, 0, none⟩) t cv) M it s ps (j + 1) w3 := by
        have hWs : w.heap.size ≤ W.heap.size := i2.size
        have hitW : it < W.heap.size := (Array.getElem?_eq_some_iff.1 i8).1
        have hgW : ∀ g' ∈ rowOf (.slice (some ⟨g, 0, none⟩) t cv), g' < W.heap.size := fun g' hg' => row_lt i7 hg'
        refine ⟨F'', ?_, i2.trans t3 d3, Sub.trans d3 hsub3 hWs, ?_, d5, ?_, ?_, ?_⟩
        · have e : (ps.take (j + 1)).map (fun i => M.getD i 0) = (ps.take j).map (fun i => M.getD i 0) ++ [x] := by
            rw [List.take_add_one, List.map_append]
            congr 1
            have := Hx.out.1
            have h2 := Hx.out.2
            rw [List.getElem?_eq_getElem hlt]
            rw [List.getD, List.getElem?_eq_getElem hlt] at h2
            simp only [Option.getD_some] at h2
            simp [h2]
            exact this
          rw [e, ← List.append_assoc]
          exact hs3
        · intro hf
          rcases hsub3 _ hf with h | h
          · exact d4 h
          · omega
        · intro g' hg'
          refine ⟨fun hf => ?_, (d6 g' hg').2⟩
          rcases hsub3 _ hf with h | h
          · exact (d6 g' hg').1 h
          · have := hgW g' hg'; omega
        · exact row_touch i7 t3 (fun g' hg' => (d6 g' hg').1)
        · exact (t3.block it hitW d4).trans i8
      clear hs3 t3 hsub3 i8 i2 i7 d3 d4 d5 d6 K hnx hcell
      go_wp2
      go_roundg g'
      case measure => omega
      case rel => exact ⟨j + 1, by omega, by omega, hD3⟩
    · have hje : j = ps.length := by omega
      subst hje
      obtain ⟨F', d1, d2, d3, d4, d5, d6, d7, d8⟩ := hD
      have hnx : ∀ ty, (Instr.next (.pointer (some ⟨it, 0, none⟩)) true ty).run Tryz.prog wr = _ := fun ty => Lib.run_next_end_at wr it s ps.length ty d8 (by omega)
      clear d4 d5 d6 d7 d8
      go_wp2
      go_ret
      rw [List.take_length] at d1
      rw [HAM.out.1, HAM.out.2]
      exact ⟨F', rfl, d1, d2, d3⟩
end Go.Proofs.YtdokeddjcpnmiaaGreatDoor

/- The contract of stack's Do, at the words that take some cells and put some: the other ways. (Printed by do2.py from XDo.) -/
namespace Go.Proofs.YtdokeddjcpnmiaaGreatDoor
open Go.RowKit

set_option maxRecDepth 100000 in
set_option maxHeartbeats 4000000 in
theorem Do_qdup (w : World) (b : Nat) (F : List Nat) (L : List Int) (h : StackAt w b F L) (t : Nat) (ps : List Nat) (hS : ∀ w, ShapeSays 35 t (places ps) w) (hps : ∀ i ∈ ps, i < t) (ht4 : t ≤ 4) (hp6 : ps.length ≤ 6)
    (top : Int) (htop : L.getD (L.length - 1) 0 = top) (hnz : ¬ top = 0) (ht1 : 1 ≤ t) (hL : L.length ≤ 128) (ht : t ≤ L.length) (hroom : L.length - t + ps.length ≤ 128) :
    Calls Tryz.prog 96 #[.pointer (some ⟨b, 0, none⟩), .int .i64 35] w fun e w' =>
      ∃ F', e = .returned (.int .i64 0) ∧ StackAt w' b F' (L.take (L.length - t) ++ ps.map fun i => (L.drop (L.length - t)).getD i 0) ∧ Touch F w w' ∧ Sub w F F' := by
  have Htop := Lib.hid htop
  clear htop
  obtain ⟨s, hs⟩ : ∃ s, places ps = s := ⟨_, rfl⟩
  have hsz : s.size = ps.length := by rw [← hs, places_size]
  have hat : ∀ j (hj : j < s.size), (s[j]'hj).toNat = 97 + ps.getD j 0 := by
    subst hs
    exact places_at ps (fun i hi => by have := hps i hi; omega)
  rw [hs] at hS
  obtain ⟨v0, hb0, hF0, hnb0, hr0⟩ := id h
  obtain ⟨a0, c0, rfl⟩ := row_value hr0
  have HL := Lib.hid h.lt
  have H := Lib.hid h
  have g0 := hb0.cell 0
  obtain ⟨n, hn⟩ : ∃ n, L.length = n := ⟨_, rfl⟩
  have Hh := Lib.hid (And.intro hps hat)
  have Hn := Lib.hid hn
  rw [hn] at hL ht hroom g0 ⊢
  have Hb := Lib.hid hb0
  clear h hb0 hF0 hnb0 hr0 hps hat hn hs
  obtain ⟨m, hm⟩ : ∃ m, n - t = m := ⟨_, rfl⟩
  rw [hm] at hroom ⊢
  have e1 : ¬ (n : Int) < t := by omega
  have e2 : IntKind.i64.wrap ((n : Int) - t) = m := by rw [IntKind.wrap_i64]; omega
  have e3 : IntKind.i64.wrap ((m : Int) + (s.size : Int)) = (m + ps.length : Nat) := by rw [IntKind.wrap_i64, hsz]; omega
  have e4 : ¬ ((m + ps.length : Nat) : Int) > 128 := by omega
  go_enter Tryz.func96, Tryz.ntmps96
  go_wp2_with fail
  refine (hS _).mono ?_
  rintro _ w1 ⟨rfl, t1⟩
  go_upto_region 8 with (fail)
  have hFw : ∀ f, f ∈ F → f < w1.heap.size := fun f hf => Nat.lt_of_lt_of_le (HL.out f hf) t1.size
  have hSA : StackAt (w1.alloc (.cells #[.int .i64 t, .string s] 177)) b F L := (H.out.touch t1 (by simp)).alloc _
  have bA := Blk.new w1 177 #[.int .i64 t, .string s]
  have tA := t1.alloc (.cells #[.int .i64 t, .string s] 177)
  have hbF : b ∈ F := by obtain ⟨v, _, rfl, _⟩ := H.out; simp
  have g1 : (w1.alloc (.cells #[.int .i64 t, .string s] 177)).cell? ⟨b, 0, none⟩ = some (.slice a0 n c0) := (tA.cell (p := ⟨b, 0, none⟩) (HL.out b hbF) (by simp)).trans g0
  have hFS : w1.heap.size ∉ F := fun hf => Nat.lt_irrefl _ (hFw _ hf)
  have hSw : w.heap.size ≤ w1.heap.size := t1.size
  generalize hwA : w1.alloc (.cells #[.int .i64 t, .string s] 177) = wA at *
  generalize hBS : w1.heap.size = BS at *
  clear hwA hBS t1 g0 Hb
  obtain ⟨gt, rfl⟩ : ∃ gt, a0 = some ⟨gt, 0, none⟩ := by
    obtain ⟨v', hb', _, _, hr'⟩ := hSA
    have e := (hb'.cell 0).symm.trans g1
    simp at e
    subst e
    rw [Hn.out] at hr'
    rcases Go.Joins.ownsRow_forms hr' with ⟨e, e'⟩ | ⟨g, cap, e⟩
    · omega
    · cases e; exact ⟨g, rfl⟩
  have htc : wA.cell? ⟨gt, n - 1, none⟩ = some (.int .i64 top) := by
    obtain ⟨v', hb', _, _, hr'⟩ := hSA
    have e := (hb'.cell 0).symm.trans g1
    simp at e
    subst e
    rw [Hn.out] at hr'
    rw [hr'.cellAt (n - 1) (by omega)]
    rw [cells_get L (n - 1) (by rw [Hn.out]; omega)]
    have := Htop.out
    rw [Hn.out] at this
    rw [this]
  have en : IntKind.i64.wrap ((n : Int) - 1) = (n - 1 : Nat) := by rw [IntKind.wrap_i64]; omega
  have hT := Take_ok wA b F L hSA t (by rw [Hn.out]; omega) (by rw [Hn.out]; omega)
  rw [Hn.out, hm] at hT
  have hML : (L.drop m).length = t := by rw [List.length_drop, Hn.out]; omega
  have z0 := bA.cell 0
  have z1 := bA.cell 1
  have HA := Lib.hid tA
  have HS := Lib.hid hSA
  clear tA hSA
  go_wp2_with fail
  refine hT.mono ?_
  rintro _ w2 ⟨v, rfl, hown, hS2, t2⟩
  have hBA := bA.lt
  have y0 := (t2.cell (p := ⟨BS, 0, none⟩) hBA hFS).trans z0
  have y1 := (t2.cell (p := ⟨BS, 1, none⟩) hBA hFS).trans z1
  have T2 := Lib.hid ((HA.out.mono (G := F) (by simp)).trans t2 (fun g hg => .inl hg))
  clear hT z0 z1 bA g1
  go_upto_region 19 with (fail)
  have hAlen : (L.take m).length = m := by rw [List.length_take, Hn.out]; omega
  have D0 : DoAt w b F (L.take m) v (L.drop m) w2.heap.size s ps 0 (w2.iter s 0) := by
    refine ⟨F, by rw [List.take_zero, List.map_nil, List.append_nil]; exact hS2.alloc _, T2.out.alloc _, Sub.refl _ _, fun hf => Nat.lt_irrefl _ (Nat.lt_of_lt_of_le (HL.out _ hf) T2.out.size), T2.out.size, ?_, ?_, World.iter_heap w2 s 0⟩
    · intro g hg
      have h1 := hown.lt g (rowOf_mem.1 hg)
      have h2 := HA.out.size
      exact ⟨fun hf => by have := HL.out _ hf; omega, by omega, by omega⟩
    · rw [hML]
      exact (Go.Joins.ownsRow_le hown (Nat.zero_le _)).alloc _
  have hv : ∃ a c, v = .slice a t c := row_value (Go.Joins.ownsRow_le hown (Nat.zero_le _))
  obtain ⟨av, cv, rfl⟩ := hv
  generalize w2.iter s 0 = W0 at D0 ⊢
  generalize w2.heap.size = it at D0 ⊢
  generalize hA : L.take m = A at *
  generalize hM : L.drop m = M at *
  clear hS2 hown t2 y0 y1 T2 HA HS HL H hS hbF hFS hFw hSw hBA
  have HAM := Lib.hid (And.intro hA hM)
  clear hA hM
  go_loopg [11] ps.length (fun gf _ wr => ∃ j, j ≤ ps.length ∧ ps.length ≤ j + gf ∧ DoAt w b F A (.slice av t cv) M it s ps j wr)
  case atStart => exact ⟨0, by omega, by omega, D0⟩
  case round =>
    obtain ⟨j, hj, hgj, hD⟩ := hrel
    clear D0
    by_cases hlt : j < ps.length
    · obtain ⟨g', rfl⟩ : ∃ g', gk = g' + 1 := ⟨gk - 1, by omega⟩
      have hjs : j < s.size := by omega
      obtain ⟨p, hp⟩ : ∃ p, ps.getD j 0 = p := ⟨_, rfl⟩
      have hpt : p < t := by
        have := Hh.out.1 (ps.getD j 0) (by rw [List.getD, List.getElem?_eq_getElem hlt]; exact List.getElem_mem hlt)
        omega
      have hch := Hh.out.2 j hjs
      rw [hp] at hch
      obtain ⟨F', d1, d2, d3, d4, d5, d6, d7, d8⟩ := hD
      have hnx : ∀ ty, (Instr.next (.pointer (some ⟨it, 0, none⟩)) true ty).run Tryz.prog wr = _ := fun ty => Lib.run_next_ascii_at wr it s j ty d8 hjs (by omega)
      rw [hch] at hnx
      have i8 := Lib.iterAt_heap wr it s j (j + 1) d8
      have i1 := d1.iter d4 s (j + 1)
      have i2 := iter_touch d2 (k := it) (.inr d5) s (j + 1)
      have i7 : (wr.iterAt it s (j + 1)).ownsRow 0 33 1 (.slice av t cv) M.length (cells M) := row_touch d7 (iter_touch (Touch.refl [it] wr) (by simp) s (j + 1)) (fun g hg hf => (d6 g hg).2.1 (by simpa using hf))
      generalize wr.iterAt it s (j + 1) = W at *
      obtain ⟨g, rfl⟩ : ∃ g, av = some ⟨g, 0, none⟩ := by
        rcases Go.Joins.ownsRow_forms i7 with ⟨e, e'⟩ | ⟨g, cap, e⟩
        · omega
        · cases e; exact ⟨g, rfl⟩
      have i7' := i7
      rw [hML] at i7'
      have hcell : W.cell? ⟨g, p, none⟩ = some (.int .i64 (M.getD p 0)) := by
        rw [i7'.cellAt p (by omega)]
        exact cells_get M p (by omega)
      obtain ⟨x, hx⟩ : ∃ x, M.getD p 0 = x := ⟨_, rfl⟩
      rw [hx] at hcell
      have hPu := Push_ok W b F' _ i1 (by rw [List.length_append, List.length_map, List.length_take, hAlen]; omega) x
      have K := Lib.hid (And.intro i8 (And.intro i2 (And.intro i7 (And.intro d3 (And.intro d4 (And.intro d5 d6))))))
      clear d1 d2 d3 d4 d5 d6 d7 d8 i8 i1 i2 i7 i7' hch
      have ep : IntKind.i32.wrap ((97 + p : Nat) - 97) = p := by rw [IntKind.wrap_i32]; omega
      have Hx := Lib.hid (And.intro hx hp)
      clear hx hp
      go_wp2_with fail
      refine hPu.mono ?_
      rintro _ w3 ⟨F'', rfl, hs3, t3, hsub3⟩
      obtain ⟨i8, i2, i7, d3, d4, d5, d6⟩ := K.out
      have hD3 : DoAt w b F A (.slice (some ⟨g, 0, none⟩) t cv) M it s ps (j + 1) w3 := by
        have hWs : w.heap.size ≤ W.heap.size := i2.size
        have hitW : it < W.heap.size := (Array.getElem?_eq_some_iff.1 i8).1
        have hgW : ∀ g' ∈ rowOf (.slice (some ⟨g, 0, none⟩) t cv), g' < W.heap.size := fun g' hg' => row_lt i7 hg'
        refine ⟨F'', ?_, i2.trans t3 d3, Sub.trans d3 hsub3 hWs, ?_, d5, ?_, ?_, ?_⟩
        · have e : (ps.take (j + 1)).map (fun i => M.getD i 0) = (ps.take j).map (fun i => M.getD i 0) ++ [x] := by
            rw [List.take_add_one, List.map_append]
            congr 1
            have := Hx.out.1
            have h2 := Hx.out.2
            rw [List.getElem?_eq_getElem hlt]
            rw [List.getD, List.getElem?_eq_getElem hlt] at h2
            simp only [Option.getD_some] at h2
            simp [h2]
            exact this
          rw [e, ← List.append_assoc]
          exact hs3
        · intro hf
          rcases hsub3 _ hf with h | h
          · exact d4 h
          · omega
        · intro g' hg'
          refine ⟨fun hf => ?_, (d6 g' hg').2⟩
          rcases hsub3 _ hf with h | h
          · exact (d6 g' hg').1 h
          · have := hgW g' hg'; omega
        · exact row_touch i7 t3 (fun g' hg' => (d6 g' hg').1)
        · exact (t3.block it hitW d4).trans i8
      clear hs3 t3 hsub3 i8 i2 i7 d3 d4 d5 d6 K hnx hcell
      go_wp2
      go_roundg g'
      case measure => omega
      case rel => exact ⟨j + 1, by omega, by omega, hD3⟩
    · have hje : j = ps.length := by omega
      subst hje
      obtain ⟨F', d1, d2, d3, d4, d5, d6, d7, d8⟩ := hD
      have hnx : ∀ ty, (Instr.next (.pointer (some ⟨it, 0, none⟩)) true ty).run Tryz.prog wr = _ := fun ty => Lib.run_next_end_at wr it s ps.length ty d8 (by omega)
      clear d4 d5 d6 d7 d8
      go_wp2
      go_ret
      rw [List.take_length] at d1
      rw [HAM.out.1, HAM.out.2]
      exact ⟨F', rfl, d1, d2, d3⟩

set_option maxRecDepth 100000 in
set_option maxHeartbeats 4000000 in
theorem Do_qzero (w : World) (b : Nat) (F : List Nat) (L : List Int) (h : StackAt w b F L) (t : Nat) (ps : List Nat) (hS : ∀ w, ShapeSays 35 t (places ps) w) (ht4 : t ≤ 4)
    (top : Int) (htop : L.getD (L.length - 1) 0 = top) (hnz : top = 0) (ht1 : 1 ≤ t) (hL : L.length ≤ 128) (ht : t ≤ L.length) :
    Calls Tryz.prog 96 #[.pointer (some ⟨b, 0, none⟩), .int .i64 35] w fun e w' => e = .returned (.int .i64 (0)) ∧ Touch [] w w' := by
  have Htop := Lib.hid htop
  clear htop
  obtain ⟨s, hs⟩ : ∃ s, places ps = s := ⟨_, rfl⟩
  rw [hs] at hS
  obtain ⟨v0, hb0, hF0, hnb0, hr0⟩ := id h
  obtain ⟨a0, c0, rfl⟩ := row_value hr0
  have HL := Lib.hid h.lt
  have H := Lib.hid h
  have g0 := hb0.cell 0
  obtain ⟨n, hn⟩ : ∃ n, L.length = n := ⟨_, rfl⟩
  have Hn := Lib.hid hn
  rw [hn] at hL ht g0
  have Hb := Lib.hid hb0
  clear h hb0 hF0 hnb0 hr0 hn hs
  have e1 : ¬ (n : Int) < t := by omega
  go_enter Tryz.func96, Tryz.ntmps96
  go_wp2_with fail
  refine (hS _).mono ?_
  rintro _ w1 ⟨rfl, t1⟩
  go_upto_region 8 with (fail)
  have hFw : ∀ f, f ∈ F → f < w1.heap.size := fun f hf => Nat.lt_of_lt_of_le (HL.out f hf) t1.size
  have hSA : StackAt (w1.alloc (.cells #[.int .i64 t, .string s] 177)) b F L := (H.out.touch t1 (by simp)).alloc _
  have bA := Blk.new w1 177 #[.int .i64 t, .string s]
  have tA := t1.alloc (.cells #[.int .i64 t, .string s] 177)
  have hbF : b ∈ F := by obtain ⟨v, _, rfl, _⟩ := H.out; simp
  have g1 : (w1.alloc (.cells #[.int .i64 t, .string s] 177)).cell? ⟨b, 0, none⟩ = some (.slice a0 n c0) := (tA.cell (p := ⟨b, 0, none⟩) (HL.out b hbF) (by simp)).trans g0
  have hFS : w1.heap.size ∉ F := fun hf => Nat.lt_irrefl _ (hFw _ hf)
  have hSw : w.heap.size ≤ w1.heap.size := t1.size
  generalize hwA : w1.alloc (.cells #[.int .i64 t, .string s] 177) = wA at *
  generalize hBS : w1.heap.size = BS at *
  clear hwA hBS t1 g0 Hb
  obtain ⟨gt, rfl⟩ : ∃ gt, a0 = some ⟨gt, 0, none⟩ := by
    obtain ⟨v', hb', _, _, hr'⟩ := hSA
    have e := (hb'.cell 0).symm.trans g1
    simp at e
    subst e
    rw [Hn.out] at hr'
    rcases Go.Joins.ownsRow_forms hr' with ⟨e, e'⟩ | ⟨g, cap, e⟩
    · omega
    · cases e; exact ⟨g, rfl⟩
  have htc : wA.cell? ⟨gt, n - 1, none⟩ = some (.int .i64 top) := by
    obtain ⟨v', hb', _, _, hr'⟩ := hSA
    have e := (hb'.cell 0).symm.trans g1
    simp at e
    subst e
    rw [Hn.out] at hr'
    rw [hr'.cellAt (n - 1) (by omega)]
    rw [cells_get L (n - 1) (by rw [Hn.out]; omega)]
    have := Htop.out
    rw [Hn.out] at this
    rw [this]
  have en : IntKind.i64.wrap ((n : Int) - 1) = (n - 1 : Nat) := by rw [IntKind.wrap_i64]; omega
  have z0 := bA.cell 0
  have z1 := bA.cell 1
  have HA := Lib.hid tA
  clear tA hSA HL H
  go_wp2
  go_ret
  exact ⟨rfl, HA.out⟩

set_option maxRecDepth 100000 in
set_option maxHeartbeats 4000000 in
theorem Do_under (w : World) (b : Nat) (F : List Nat) (L : List Int) (h : StackAt w b F L) (op : Int) (t : Nat) (ps : List Nat) (hS : ∀ w, ShapeSays op t (places ps) w)
    (h40 : ¬ op = 40) (h41 : ¬ op = 41) (h42 : ¬ op = 42) (ht : L.length < t) :
    Calls Tryz.prog 96 #[.pointer (some ⟨b, 0, none⟩), .int .i64 op] w fun e w' => e = .returned (.int .i64 (-4)) ∧ Touch [] w w' := by
  obtain ⟨s, hs⟩ : ∃ s, places ps = s := ⟨_, rfl⟩
  rw [hs] at hS
  obtain ⟨v0, hb0, hF0, hnb0, hr0⟩ := id h
  obtain ⟨a0, c0, rfl⟩ := row_value hr0
  have HL := Lib.hid h.lt
  have H := Lib.hid h
  have g0 := hb0.cell 0
  obtain ⟨n, hn⟩ : ∃ n, L.length = n := ⟨_, rfl⟩
  have Hn := Lib.hid hn
  rw [hn] at ht g0
  have Hb := Lib.hid hb0
  clear h hb0 hF0 hnb0 hr0 hn hs
  have e1 : (n : Int) < t := by omega
  go_enter Tryz.func96, Tryz.ntmps96
  have b40 : (op == 40) = false := by simp [h40]
  have b41 : (op == 41) = false := by simp [h41]
  have b42 : (op == 42) = false := by simp [h42]
  go_wp2_with fail
  refine (hS _).mono ?_
  rintro _ w1 ⟨rfl, t1⟩
  go_upto_region 8 with (fail)
  have hFw : ∀ f, f ∈ F → f < w1.heap.size := fun f hf => Nat.lt_of_lt_of_le (HL.out f hf) t1.size
  have hSA : StackAt (w1.alloc (.cells #[.int .i64 t, .string s] 177)) b F L := (H.out.touch t1 (by simp)).alloc _
  have bA := Blk.new w1 177 #[.int .i64 t, .string s]
  have tA := t1.alloc (.cells #[.int .i64 t, .string s] 177)
  have hbF : b ∈ F := by obtain ⟨v, _, rfl, _⟩ := H.out; simp
  have g1 : (w1.alloc (.cells #[.int .i64 t, .string s] 177)).cell? ⟨b, 0, none⟩ = some (.slice a0 n c0) := (tA.cell (p := ⟨b, 0, none⟩) (HL.out b hbF) (by simp)).trans g0
  have hFS : w1.heap.size ∉ F := fun hf => Nat.lt_irrefl _ (hFw _ hf)
  have hSw : w.heap.size ≤ w1.heap.size := t1.size
  generalize hwA : w1.alloc (.cells #[.int .i64 t, .string s] 177) = wA at *
  generalize hBS : w1.heap.size = BS at *
  clear hwA hBS t1 g0 Hb
  have z0 := bA.cell 0
  have z1 := bA.cell 1
  have HA := Lib.hid tA
  clear tA hSA HL H
  go_wp2
  go_ret
  exact ⟨rfl, HA.out⟩

set_option maxRecDepth 100000 in
set_option maxHeartbeats 4000000 in
theorem Do_over (w : World) (b : Nat) (F : List Nat) (L : List Int) (h : StackAt w b F L) (op : Int) (t : Nat) (ps : List Nat) (hS : ∀ w, ShapeSays op t (places ps) w) (ht4 : t ≤ 4) (hp6 : ps.length ≤ 6)
    (h40 : ¬ op = 40) (h41 : ¬ op = 41) (h42 : ¬ op = 42) (h35 : ¬ op = 35) (hL : L.length ≤ 128) (ht : t ≤ L.length) (hroom : 128 < L.length - t + ps.length) :
    Calls Tryz.prog 96 #[.pointer (some ⟨b, 0, none⟩), .int .i64 op] w fun e w' => e = .returned (.int .i64 (-3)) ∧ Touch [] w w' := by
  obtain ⟨s, hs⟩ : ∃ s, places ps = s := ⟨_, rfl⟩
  have hsz : s.size = ps.length := by rw [← hs, places_size]
  rw [hs] at hS
  obtain ⟨v0, hb0, hF0, hnb0, hr0⟩ := id h
  obtain ⟨a0, c0, rfl⟩ := row_value hr0
  have HL := Lib.hid h.lt
  have H := Lib.hid h
  have g0 := hb0.cell 0
  obtain ⟨n, hn⟩ : ∃ n, L.length = n := ⟨_, rfl⟩
  have Hn := Lib.hid hn
  rw [hn] at hL ht hroom g0
  have Hb := Lib.hid hb0
  clear h hb0 hF0 hnb0 hr0 hn hs
  obtain ⟨m, hm⟩ : ∃ m, n - t = m := ⟨_, rfl⟩
  rw [hm] at hroom
  have e1 : ¬ (n : Int) < t := by omega
  have e2 : IntKind.i64.wrap ((n : Int) - t) = m := by rw [IntKind.wrap_i64]; omega
  have e3 : IntKind.i64.wrap ((m : Int) + (s.size : Int)) = (m + ps.length : Nat) := by rw [IntKind.wrap_i64, hsz]; omega
  have e4 : ((m + ps.length : Nat) : Int) > 128 := by omega
  go_enter Tryz.func96, Tryz.ntmps96
  have b40 : (op == 40) = false := by simp [h40]
  have b41 : (op == 41) = false := by simp [h41]
  have b42 : (op == 42) = false := by simp [h42]
  have b35 : (op == 35) = false := by simp [h35]
  go_wp2_with fail
  refine (hS _).mono ?_
  rintro _ w1 ⟨rfl, t1⟩
  go_upto_region 8 with (fail)
  have hFw : ∀ f, f ∈ F → f < w1.heap.size := fun f hf => Nat.lt_of_lt_of_le (HL.out f hf) t1.size
  have hSA : StackAt (w1.alloc (.cells #[.int .i64 t, .string s] 177)) b F L := (H.out.touch t1 (by simp)).alloc _
  have bA := Blk.new w1 177 #[.int .i64 t, .string s]
  have tA := t1.alloc (.cells #[.int .i64 t, .string s] 177)
  have hbF : b ∈ F := by obtain ⟨v, _, rfl, _⟩ := H.out; simp
  have g1 : (w1.alloc (.cells #[.int .i64 t, .string s] 177)).cell? ⟨b, 0, none⟩ = some (.slice a0 n c0) := (tA.cell (p := ⟨b, 0, none⟩) (HL.out b hbF) (by simp)).trans g0
  have hFS : w1.heap.size ∉ F := fun hf => Nat.lt_irrefl _ (hFw _ hf)
  have hSw : w.heap.size ≤ w1.heap.size := t1.size
  generalize hwA : w1.alloc (.cells #[.int .i64 t, .string s] 177) = wA at *
  generalize hBS : w1.heap.size = BS at *
  clear hwA hBS t1 g0 Hb
  have z0 := bA.cell 0
  have z1 := bA.cell 1
  have HA := Lib.hid tA
  clear tA hSA HL H
  go_wp2
  go_ret
  exact ⟨rfl, HA.out⟩

set_option maxRecDepth 100000 in
set_option maxHeartbeats 4000000 in
theorem Do_qover (w : World) (b : Nat) (F : List Nat) (L : List Int) (h : StackAt w b F L) (t : Nat) (ps : List Nat) (hS : ∀ w, ShapeSays 35 t (places ps) w) (ht4 : t ≤ 4) (hp6 : ps.length ≤ 6)
    (top : Int) (htop : L.getD (L.length - 1) 0 = top) (hnz : ¬ top = 0) (ht1 : 1 ≤ t) (hL : L.length ≤ 128) (ht : t ≤ L.length) (hroom : 128 < L.length - t + ps.length) :
    Calls Tryz.prog 96 #[.pointer (some ⟨b, 0, none⟩), .int .i64 35] w fun e w' => e = .returned (.int .i64 (-3)) ∧ Touch [] w w' := by
  have Htop := Lib.hid htop
  clear htop
  obtain ⟨s, hs⟩ : ∃ s, places ps = s := ⟨_, rfl⟩
  have hsz : s.size = ps.length := by rw [← hs, places_size]
  rw [hs] at hS
  obtain ⟨v0, hb0, hF0, hnb0, hr0⟩ := id h
  obtain ⟨a0, c0, rfl⟩ := row_value hr0
  have HL := Lib.hid h.lt
  have H := Lib.hid h
  have g0 := hb0.cell 0
  obtain ⟨n, hn⟩ : ∃ n, L.length = n := ⟨_, rfl⟩
  have Hn := Lib.hid hn
  rw [hn] at hL ht hroom g0
  have Hb := Lib.hid hb0
  clear h hb0 hF0 hnb0 hr0 hn hs
  obtain ⟨m, hm⟩ : ∃ m, n - t = m := ⟨_, rfl⟩
  rw [hm] at hroom
  have e1 : ¬ (n : Int) < t := by omega
  have e2 : IntKind.i64.wrap ((n : Int) - t) = m := by rw [IntKind.wrap_i64]; omega
  have e3 : IntKind.i64.wrap ((m : Int) + (s.size : Int)) = (m + ps.length : Nat) := by rw [IntKind.wrap_i64, hsz]; omega
  have e4 : ((m + ps.length : Nat) : Int) > 128 := by omega
  go_enter Tryz.func96, Tryz.ntmps96
  go_wp2_with fail
  refine (hS _).mono ?_
  rintro _ w1 ⟨rfl, t1⟩
  go_upto_region 8 with (fail)
  have hFw : ∀ f, f ∈ F → f < w1.heap.size := fun f hf => Nat.lt_of_lt_of_le (HL.out f hf) t1.size
  have hSA : StackAt (w1.alloc (.cells #[.int .i64 t, .string s] 177)) b F L := (H.out.touch t1 (by simp)).alloc _
  have bA := Blk.new w1 177 #[.int .i64 t, .string s]
  have tA := t1.alloc (.cells #[.int .i64 t, .string s] 177)
  have hbF : b ∈ F := by obtain ⟨v, _, rfl, _⟩ := H.out; simp
  have g1 : (w1.alloc (.cells #[.int .i64 t, .string s] 177)).cell? ⟨b, 0, none⟩ = some (.slice a0 n c0) := (tA.cell (p := ⟨b, 0, none⟩) (HL.out b hbF) (by simp)).trans g0
  have hFS : w1.heap.size ∉ F := fun hf => Nat.lt_irrefl _ (hFw _ hf)
  have hSw : w.heap.size ≤ w1.heap.size := t1.size
  generalize hwA : w1.alloc (.cells #[.int .i64 t, .string s] 177) = wA at *
  generalize hBS : w1.heap.size = BS at *
  clear hwA hBS t1 g0 Hb
  obtain ⟨gt, rfl⟩ : ∃ gt, a0 = some ⟨gt, 0, none⟩ := by
    obtain ⟨v', hb', _, _, hr'⟩ := hSA
    have e := (hb'.cell 0).symm.trans g1
    simp at e
    subst e
    rw [Hn.out] at hr'
    rcases Go.Joins.ownsRow_forms hr' with ⟨e, e'⟩ | ⟨g, cap, e⟩
    · omega
    · cases e; exact ⟨g, rfl⟩
  have htc : wA.cell? ⟨gt, n - 1, none⟩ = some (.int .i64 top) := by
    obtain ⟨v', hb', _, _, hr'⟩ := hSA
    have e := (hb'.cell 0).symm.trans g1
    simp at e
    subst e
    rw [Hn.out] at hr'
    rw [hr'.cellAt (n - 1) (by omega)]
    rw [cells_get L (n - 1) (by rw [Hn.out]; omega)]
    have := Htop.out
    rw [Hn.out] at this
    rw [this]
  have en : IntKind.i64.wrap ((n : Int) - 1) = (n - 1 : Nat) := by rw [IntKind.wrap_i64]; omega
  have z0 := bA.cell 0
  have z1 := bA.cell 1
  have HA := Lib.hid tA
  clear tA hSA HL H
  go_wp2
  go_ret
  exact ⟨rfl, HA.out⟩
end Go.Proofs.YtdokeddjcpnmiaaGreatDoor

/- The contract of stack's Do, at the word that tells how many there are. -/
namespace Go.Proofs.YtdokeddjcpnmiaaGreatDoor
open Go.RowKit

set_option maxHeartbeats 1000000 in
theorem Do_depth (w : World) (b : Nat) (F : List Nat) (L : List Int) (h : StackAt w b F L) (hL : L.length < 128) :
    Calls Tryz.prog 96 #[.pointer (some ⟨b, 0, none⟩), .int .i64 42] w fun e w' =>
      ∃ F', e = .returned (.int .i64 0) ∧ StackAt w' b F' (L ++ [(L.length : Int)]) ∧ Touch F w w' ∧ Sub w F F' := by
  have hP := Push_ok w b F L h hL L.length
  obtain ⟨v0, hb0, hF0, hnb0, hr0⟩ := id h
  obtain ⟨a0, c0, rfl⟩ := row_value hr0
  have g0 := hb0.cell 0
  clear h hb0 hF0 hnb0 hr0
  obtain ⟨n, hn⟩ : ∃ n : Nat, L.length = n := ⟨_, rfl⟩
  rw [hn] at hP g0 ⊢
  clear hn hL
  go_enter Tryz.func96, Tryz.ntmps96
  go_wp2_with fail
  refine hP.mono ?_
  rintro _ w1 ⟨F', rfl, hs, t1, hsub⟩
  go_wp2
  go_ret
  exact ⟨F', rfl, hs, t1, hsub⟩

set_option maxHeartbeats 1000000 in
theorem Do_depth_over (w : World) (b : Nat) (F : List Nat) (L : List Int) (h : StackAt w b F L) (hL : L.length = 128) :
    Calls Tryz.prog 96 #[.pointer (some ⟨b, 0, none⟩), .int .i64 42] w fun e w' => e = .returned (.int .i64 (-3)) ∧ Touch [] w w' := by
  have hP := Push_over w b F L h hL L.length
  obtain ⟨v0, hb0, hF0, hnb0, hr0⟩ := id h
  obtain ⟨a0, c0, rfl⟩ := row_value hr0
  have g0 := hb0.cell 0
  clear h hb0 hF0 hnb0 hr0
  obtain ⟨n, hn⟩ : ∃ n : Nat, L.length = n := ⟨_, rfl⟩
  rw [hn] at hP g0
  clear hn hL
  go_enter Tryz.func96, Tryz.ntmps96
  go_wp2_with fail
  refine hP.mono ?_
  rintro _ w1 ⟨rfl, t1⟩
  go_wp2
  go_ret
  exact ⟨rfl, t1⟩

/-- how deep the cell is that is meant; none: there is no such -/
def Far (L : List Int) (d : Nat) : Prop := ∃ x : Int, L.getD (L.length - 1) 0 = x ∧ x = d ∧ d + 1 < L.length

set_option maxRecDepth 100000 in
set_option maxHeartbeats 2000000 in
theorem far_none (w : World) (b : Nat) (F : List Nat) (op : Int) (h : StackAt w b F []) :
    Calls Tryz.prog 121 #[.pointer (some ⟨b, 0, none⟩), .int .i64 op] w fun e w' => e = .returned (.int .i64 (-4)) ∧ Touch [] w w' := by
  obtain ⟨v0, hb0, hF0, hnb0, hr0⟩ := h
  obtain ⟨a0, c0, rfl⟩ := row_value hr0
  have g0 := hb0.cell 0
  clear hb0 hF0 hnb0 hr0
  simp only [List.length_nil] at g0
  go_enter Tryz.func121, Tryz.ntmps121
  go_wp2
  go_ret
  exact ⟨rfl, Touch.refl _ _⟩

theorem stack_last {w : World} {b : Nat} {F : List Nat} {L : List Int} (h : StackAt w b F L) (n : Nat) (hn : L.length = n + 1) :
    ∃ g c, Blk w b 94 #[.slice (some ⟨g, 0, none⟩) (n + 1) c] ∧ b ≠ g ∧ F = [b, g] ∧ n + 1 ≤ c ∧ w.ownsRow 0 33 1 (.slice (some ⟨g, 0, none⟩) (n + 1) c) (n + 1) (cells L) ∧
      ∀ j, j ≤ n → w.cell? ⟨g, j, none⟩ = some (.int .i64 (L.getD j 0)) := by
  obtain ⟨v0, hb0, rfl, hnb0, hr0⟩ := h
  rw [hn] at hr0
  obtain ⟨g, c, rfl⟩ := Go.Joins.ownsRow_form hr0 (by omega)
  refine ⟨g, c, hb0, ?_, rfl, row_cap hr0, hr0, fun j hj => ?_⟩
  · intro e
    exact hnb0 (by simp [rowOf, e])
  · rw [hr0.cellAt j (by omega)]
    exact cells_get L j (by omega)

set_option maxRecDepth 100000 in
set_option maxHeartbeats 2000000 in
theorem far_under (w : World) (b : Nat) (F : List Nat) (L : List Int) (op : Int) (h : StackAt w b F L) (n : Nat) (hn : L.length = n + 1) (hL : n ≤ 128) (x : Int) (hx : L.getD n 0 = x) (hu : ¬ IntKind.u64.wrap x < n) :
    Calls Tryz.prog 121 #[.pointer (some ⟨b, 0, none⟩), .int .i64 op] w fun e w' => e = .returned (.int .i64 (-4)) ∧ Touch [] w w' := by
  obtain ⟨g, c, hb, hbg, hF, hc, hr, hcell⟩ := stack_last h n hn
  have g0 := hb.cell 0
  have gx := hcell n (Nat.le_refl _)
  rw [hx] at gx
  have en : IntKind.i64.wrap (((n + 1 : Nat) : Int) - 1) = n := by rw [IntKind.wrap_i64]; omega
  have eu : IntKind.u64.wrap (n : Int) = n := by rw [IntKind.wrap_u64]; omega
  have e0 : ¬ (n : Int) < 0 := by omega
  have e1 : (n : Int) ≤ IntKind.u64.wrap x := by omega
  clear h hb hF hr hcell hx hu hn
  go_enter Tryz.func121, Tryz.ntmps121
  go_wp2
  all_goals go_ret
  all_goals exact ⟨rfl, Touch.refl _ _⟩
end Go.Proofs.YtdokeddjcpnmiaaGreatDoor

/- slices.Delete of cells, laid by the shelf's tools in plain words. -/
namespace Go.Proofs
open Go.Shelf
def Tryz.laysSlN45_f89_ren : Go.Shelf.Ren := ⟨fun | 45 => 148 | n => n, fun | 22 => 25 | 23 => 33 | 3 => 3 | 4 => 4 | 0 => 0 | n => n, fun | n => n⟩
theorem Tryz.laysSlN45_f89 : Go.Proofs.SlLaysN.n45 Tryz.prog Tryz.laysSlN45_f89_ren := {
  mixed := by kernel_rfl
  f45 := ⟨Tryz.f148.name, by decide, Tryz.func148.trans (congrArg some (by kernel_rfl))⟩
  t0 := Tryz.underlying0
  a0 := Tryz.isAgg0
  z0 := Tryz.sizeOf0
  v0 := Tryz.zeroValue0
  t3 := Tryz.underlying3
  a3 := Tryz.isAgg3
  z3 := Tryz.sizeOf3
  v3 := Tryz.zeroValue3
  t4 := Tryz.underlying4
  a4 := Tryz.isAgg4
  z4 := Tryz.sizeOf4
  v4 := Tryz.zeroValue4
  t22 := Tryz.underlying25
  a22 := Tryz.isAgg25
  z22 := Tryz.sizeOf25
  v22 := Tryz.zeroValue25
  t23 := Tryz.underlying33
  a23 := Tryz.isAgg33
  z23 := Tryz.sizeOf33
  v23 := Tryz.zeroValue33
  i23 := by kernel_rfl }
open Go.RowKit Go.Lib Go.Sort in
/-- slices.Delete of cells -/
theorem Tryz.slices_Delete_cells (blk off cap i j : Nat) (zs : List Int) (w : World) (hH : Holds (Value.int .i64) w blk off zs.toArray) (hcap : zs.length ≤ cap) (hm : cap ≤ 9223372036854775807) (hij : i ≤ j) (hj : j ≤ zs.length) :
    Calls Tryz.prog 148 #[.slice (some ⟨blk, off, none⟩) zs.length cap, .int .i64 i, .int .i64 j] w fun e w' => e = .returned (.slice (some ⟨blk, off, none⟩) (zs.length - (j - i)) cap) ∧ ∃ q, w' = putRow (Value.int .i64) (Sort.ahead w q) blk off (zs.take i ++ zs.drop j ++ List.replicate (j - i) 0).toArray := AnyG.slices_Delete_int Tryz.laysSlN45_f89 blk off cap i j zs w hH hcap hm hij hj
end Go.Proofs

/- The contracts of pick and roll. -/
namespace Go.Proofs.YtdokeddjcpnmiaaGreatDoor
open Go.RowKit

theorem stack_of_row {w : World} {b g c m : Nat} {M : List Int} (hbg : b ≠ g)
    (hB : Blk w b 94 #[.slice (some ⟨g, 0, none⟩) m c]) (hr : w.ownsRow 0 33 1 (.slice (some ⟨g, 0, none⟩) m c) m (cells M)) (hM : M.length = m) : StackAt w b [b, g] M := by
  subst hM
  exact ⟨_, hB, rfl, by simp [rowOf]; exact hbg, hr⟩

set_option maxRecDepth 100000 in
set_option maxHeartbeats 2000000 in
theorem far_pick (w : World) (b : Nat) (F : List Nat) (L : List Int) (h : StackAt w b F L) (n : Nat) (hn : L.length = n + 1) (hL : n ≤ 128) (d : Nat) (hx : L.getD n 0 = d) (hd : d < n) :
    Calls Tryz.prog 121 #[.pointer (some ⟨b, 0, none⟩), .int .i64 40] w fun e w' => e = .returned (.int .i64 0) ∧ StackAt w' b F (L.take n ++ [L.getD (n - 1 - d) 0]) ∧ Touch F w w' := by
  obtain ⟨g, c, hb, hbg, rfl, hc, hr, hcell⟩ := stack_last h n hn
  have g0 := hb.cell 0
  have gx := hcell n (Nat.le_refl _)
  rw [hx] at gx
  have gy := hcell (n - 1 - d) (by omega)
  obtain ⟨y, hy⟩ : ∃ y, L.getD (n - 1 - d) 0 = y := ⟨_, rfl⟩
  rw [hy] at gy ⊢
  have fx := hr.frozenAt n
  obtain ⟨at_, hat⟩ : ∃ k, n - 1 - d = k := ⟨_, rfl⟩
  rw [hat] at gy
  have en : IntKind.i64.wrap (((n + 1 : Nat) : Int) - 1) = n := by rw [IntKind.wrap_i64]; omega
  have en1 : IntKind.i64.wrap ((n : Int) - 1) = (n - 1 : Nat) := by rw [IntKind.wrap_i64]; omega
  have en2 : IntKind.i64.wrap (((n - 1 : Nat) : Int) - d) = at_ := by rw [IntKind.wrap_i64]; omega
  have eu : IntKind.u64.wrap (n : Int) = n := by rw [IntKind.wrap_u64]; omega
  have ed : IntKind.u64.wrap (d : Int) = d := by rw [IntKind.wrap_u64]; omega
  have e0 : ¬ (n : Int) < 0 := by omega
  have e1 : ¬ (n : Int) ≤ d := by omega
  have e2 : at_ < n + 1 := by omega
  have Hr := Lib.hid (And.intro hb (And.intro hr (And.intro hn hat)))
  have hbg' := Lib.hid hbg
  clear h hb hbg hr hcell hx hn hy hat
  go_enter Tryz.func121, Tryz.ntmps121
  go_wp2
  go_ret
  obtain ⟨hb, hr, hn, hat⟩ := Hr.out
  refine ⟨rfl, stack_of_row hbg'.out (hb.far (fun e => hbg'.out e) _) ?_ (by simp; omega), (Touch.refl _ _).setCell (by simp) _⟩
  have hs := (hr.stored n (.int .i64 y)).1
  have e : (cells L).set n (.int .i64 y) = cells (L.take n ++ [y]) := by
    apply List.ext_getElem?
    intro j
    simp only [cells, List.getElem?_set, List.getElem?_map, List.length_map, List.getElem?_append, List.getElem?_take, List.length_take]
    by_cases h1 : j < n
    · rw [if_neg (by omega), if_pos (by omega), if_pos h1]
    · by_cases h2 : n = j
      · subst h2
        rw [if_pos rfl, if_pos (by omega), if_neg (by omega), show n - min n L.length = 0 by omega]
        rfl
      · rw [if_neg h2, if_neg (by omega), List.getElem?_eq_none (by omega), List.getElem?_eq_none (by simp; omega)]
  rw [e] at hs
  exact hs

set_option maxRecDepth 100000 in
set_option maxHeartbeats 4000000 in
theorem far_roll (w : World) (b : Nat) (F : List Nat) (L : List Int) (h : StackAt w b F L) (n : Nat) (hn : L.length = n + 1) (hL : n ≤ 128) (d : Nat) (hx : L.getD n 0 = d) (hd : d < n) :
    Calls Tryz.prog 121 #[.pointer (some ⟨b, 0, none⟩), .int .i64 41] w fun e w' =>
      ∃ F', e = .returned (.int .i64 0) ∧ StackAt w' b F' ((L.take n).take (n - 1 - d) ++ (L.take n).drop (n - d) ++ [L.getD (n - 1 - d) 0]) ∧ Touch F w w' ∧ Sub w F F' := by
  obtain ⟨i0, hi, hz0, hz1, hz2⟩ := info_cell'
  obtain ⟨g, c, hb, hbg, rfl, hc, hr, hcell⟩ := stack_last h n hn
  have g0 := hb.cell 0
  have gx := hcell n (Nat.le_refl _)
  rw [hx] at gx
  have gy := hcell (n - 1 - d) (by omega)
  obtain ⟨y, hy⟩ : ∃ y, L.getD (n - 1 - d) 0 = y := ⟨_, rfl⟩
  rw [hy] at gy ⊢
  obtain ⟨at_, hat⟩ : ∃ k, n - 1 - d = k := ⟨_, rfl⟩
  rw [show n - d = at_ + 1 by omega]
  rw [hat] at gy ⊢
  have hr' := row_take hr (m := n) (by omega)
  have hzl : (L.take n).length = n := by rw [List.length_take]; omega
  obtain ⟨Z, hZ⟩ : ∃ Z, L.take n = Z := ⟨_, rfl⟩
  rw [hZ] at hr' hzl ⊢
  have hcm : c ≤ 9223372036854775807 := by
    rcases hr.2 with ⟨h0, _⟩ | ⟨g', cap', cur, hv, _, _, _, hcm, _, _⟩
    · cases h0
    · cases hv; unfold maxLen at hcm; omega
  obtain ⟨g', cap', hv, _, _, _, _, _, hH⟩ := Lib.holds_of_ownsRow (enc := Value.int .i64) (zs := Z) hr' (by simp)
  injection hv with hv1 _ hv2
  injection hv1 with hv1
  injection hv1 with hv1
  subst hv1 hv2
  have hD := Tryz.slices_Delete_cells g 0 c at_ (at_ + 1) Z w hH (by omega) hcm (by omega) (by omega)
  rw [hzl] at hD
  rw [show n - (at_ + 1 - at_) = n - 1 by omega, show at_ + 1 - at_ = 1 by omega] at hD
  have hown : ∀ q, (Sort.putRow (Value.int .i64) (Sort.ahead w q) g 0 (Z.take at_ ++ Z.drop (at_ + 1) ++ List.replicate 1 0).toArray).ownsRow 0 33 1 (.slice (some ⟨g, 0, none⟩) (n - 1) c) (n - 1) (cells (Z.take at_ ++ Z.drop (at_ + 1))) := fun q => by
    have := Lib.ownsRow_putRow (q := q) (k := n - 1) (zs := Z) (ys := Z.take at_ ++ Z.drop (at_ + 1) ++ List.replicate 1 0) hr' (by simp; omega) (by omega)
    rw [List.take_left' (by simp; omega)] at this
    exact this
  have hTo : ∀ q, Touch [g] w (Sort.putRow (Value.int .i64) (Sort.ahead w q) g 0 (Z.take at_ ++ Z.drop (at_ + 1) ++ List.replicate 1 0).toArray) := fun q =>
    ⟨rfl, rfl, rfl, by simp [Sort.putRow, Sort.mapBlock, Sort.ahead], fun k _ hk => by
      simp only [List.mem_singleton] at hk
      simp [Sort.putRow, Sort.mapBlock, Sort.ahead, Array.getElem?_modify, show g ≠ k from fun e => hk e.symm]⟩
  have en : IntKind.i64.wrap (((n + 1 : Nat) : Int) - 1) = n := by rw [IntKind.wrap_i64]; omega
  have en1 : IntKind.i64.wrap ((n : Int) - 1) = (n - 1 : Nat) := by rw [IntKind.wrap_i64]; omega
  have en2 : IntKind.i64.wrap (((n - 1 : Nat) : Int) - d) = at_ := by rw [IntKind.wrap_i64]; omega
  have en3 : IntKind.i64.wrap ((at_ : Int) + 1) = (at_ + 1 : Nat) := by rw [IntKind.wrap_i64]; omega
  have eu : IntKind.u64.wrap (n : Int) = n := by rw [IntKind.wrap_u64]; omega
  have ed : IntKind.u64.wrap (d : Int) = d := by rw [IntKind.wrap_u64]; omega
  have e0 : ¬ (n : Int) < 0 := by omega
  have e1 : ¬ (n : Int) ≤ d := by omega
  have e2 : at_ < n + 1 := by omega
  have hml : (Z.take at_ ++ Z.drop (at_ + 1)).length = n - 1 := by simp; omega
  generalize (Z.take at_ ++ Z.drop (at_ + 1)) = M at hD hown hTo hml ⊢
  have Hr := Lib.hid (And.intro hb (And.intro hown (And.intro hTo hml)))
  have hbg' := Lib.hid hbg
  have hbl := hb.lt
  clear h hb hbg hr hr' hcell hx hn hy hat hZ hzl hH hown hTo hml
  go_enter Tryz.func121, Tryz.ntmps121
  go_wp2_with fail
  refine hD.mono ?_
  rintro _ w1 ⟨rfl, q, hw1⟩
  obtain ⟨hb, hown, hTo, hml⟩ := Hr.out
  have hB1 : Blk w1 b 94 #[.slice (some ⟨g, 0, none⟩) (n + 1) c] := hw1 ▸ hb.touch (hTo q) (by simp; exact hbg'.out)
  have hO1 : w1.ownsRow 0 33 1 (.slice (some ⟨g, 0, none⟩) (n - 1) c) (n - 1) (cells M) := hw1 ▸ hown q
  have hT1 : Touch [g] w w1 := hw1 ▸ hTo q
  clear hw1 hb hown hTo Hr hD g0 gx gy
  have hN := (Blk.new w1 33 #[.int .i64 y])
  have hO2 := hO1.alloc (.cells #[.int .i64 y] 33)
  go_wp2_with (at_builtin; refine wpList_append_own_at _ rfl _ _ 25 rfl 0 33 i0 (.int .i64 0) 1 8 Tryz.underlying25 hi hz0 hz1 hz2 rfl (by decide) _ _ _ rfl hO2 ⟨w1.heap.size, 0, none⟩ 1 1 (cells [y]) rfl rfl ?qc2 (cells_one _) (by unfold maxLen; omega) (by omega) (Nat.zero_le _) ?_)
  case qc2 =>
    intro j u hj
    have h2 := (List.getElem?_eq_some_iff.1 hj).1
    have hj0 : j = 0 := by simp [cells] at h2; omega
    subst hj0
    exact (hN.cell (0 + 0)).trans (by simpa [cells] using hj)
  intro v' w2 hown2 hgrow hnil hloc
  have hgb : some b ≠ (Value.slice (some ⟨g, 0, none⟩) (n - 1) c).ownBlock := by simp [Value.ownBlock]; exact fun e => hbg'.out e
  have hB2 : Blk w2 b 94 #[.slice (some ⟨g, 0, none⟩) (n + 1) c] := (hB1.alloc _).grown hgrow hgb
  have hT2 : Touch [b, g] w w2 := ((hT1.mono (G := [b, g]) (by simp)).alloc _).grown hgrow (fun k hk => by simp [Value.ownBlock] at hk; simp [hk])
  have f2 := hB2.frozen 0
  have c2 := hB2.cell 0
  obtain ⟨a', c', rfl⟩ := row_value hown2
  have hw1s : w.heap.size ≤ w1.heap.size := hT1.size
  have hnb' : b ∉ rowOf (.slice a' (n - 1 + 1) c') := fun hb' => by
    rcases hloc with e | e
    · exact hgb (e ▸ (rowOf_mem.1 hb').symm)
    · rw [rowOf_mem.1 hb'] at e
      simp at e
      omega
  have hsub : Sub w [b, g] (b :: rowOf (.slice a' (n - 1 + 1) c')) := by
    intro f hf
    rcases List.mem_cons.1 hf with rfl | hf
    · exact .inl (by simp)
    · rcases hloc with e | e
      · rw [rowOf_mem.1 hf] at e
        simp [Value.ownBlock] at e
        exact .inl (by simp [e])
      · rw [rowOf_mem.1 hf] at e
        simp at e
        exact .inr (by omega)
  rw [← cells_append] at hown2
  have K1 := Lib.hid hB2
  have K2 := Lib.hid hT2
  have K3 := Lib.hid hsub
  have K4 := Lib.hid hown2
  have K5 := Lib.hid hnb'
  clear hB2 hT2 hsub hown2 hnb' hloc hnil hgrow hgb hO2 hN hO1 hT1 hB1
  go_wp2
  go_ret
  refine ⟨_, rfl, ⟨_, K1.out.set_ 0 _, rfl, K5.out, ?_⟩, K2.out.setCell (by simp) _, K3.out⟩
  rw [List.length_append, hml]
  exact row_touch K4.out ((Touch.refl [b] w2).setCell (by simp) _) (fun k hk hkb => K5.out (by rw [List.mem_singleton.1 hkb] at hk; exact hk))
end Go.Proofs.YtdokeddjcpnmiaaGreatDoor
