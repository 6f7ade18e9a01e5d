/- The contract of stack's Do, at a word that takes some cells and puts some of them. -/
import Derived.Test.YtkbchpaofmlhgaaGreatDoorShape
import Derived.Deep.LoopGhost
import Derived.Deep.Cut
import Derived.Lib.OthersKept
namespace Go.Proofs.YtkbchpaofmlhgaaGreatDoor
open Go.RowKit

theorem places_size (ps : List Nat) : (places ps).size = ps.length := by simp [places, ByteArray.size]
theorem places_at (ps : List Nat) (hps : ∀ i ∈ ps, i < 4) (j : Nat) (hj : j < (places ps).size) : ((places ps)[j]'hj).toNat = 97 + ps.getD j 0 := by
  have hl : j < ps.length := by rw [places_size] at hj; exact hj
  have h1 : (places ps)[j]'hj = UInt8.ofNat (97 + ps.getD j 0) := by
    have : (places ps)[j]'hj = (ps.map fun i => UInt8.ofNat (97 + i)).toArray[j]'(by simpa using hl) := rfl
    rw [this]
    simp [List.getD, List.getElem?_eq_getElem hl]
  have h2 := hps (ps.getD j 0) (by rw [List.getD, List.getElem?_eq_getElem hl]; exact List.getElem_mem hl)
  rw [h1]
  generalize ps.getD j 0 = x at h2
  simp
  omega

theorem iter_touch {F : List Nat} {a w : World} (h : Touch F a w) {k : Nat} (hk : k ∈ F ∨ a.heap.size ≤ k) (s : ByteArray) (pos : Nat) : Touch F a (w.iterAt k s pos) :=
  h.trans (G := [k]) ⟨rfl, rfl, rfl, by rw [Lib.iterAt_size]; exact Nat.le_refl _, fun i _ hi => Lib.iterAt_other w k i s pos (by simpa using hi)⟩ (by simpa using hk)
theorem StackAt.iter {w : World} {b : Nat} {F : List Nat} {L : List Int} (h : StackAt w b F L) {k : Nat} (hk : k ∉ F) (s : ByteArray) (pos : Nat) : StackAt (w.iterAt k s pos) b F L :=
  h.touch (iter_touch (Touch.refl [k] w) (by simp) s pos) (by simp; rintro f hf rfl; exact hk hf)

/-- what the loop of Do has made after j rounds -/
def DoAt (w : World) (b : Nat) (F : List Nat) (A : List Int) (v : Value) (M : List Int) (it : Nat) (s : ByteArray) (ps : List Nat) (j : Nat) (wr : World) : Prop :=
  ∃ F', StackAt wr b F' (A ++ (ps.take j).map fun i => M.getD i 0) ∧ Touch F w wr ∧ Sub w F F' ∧ it ∉ F' ∧ w.heap.size ≤ it ∧ (∀ g ∈ rowOf v, g ∉ F' ∧ g ≠ it ∧ w.heap.size ≤ g) ∧ wr.ownsRow 0 36 1 v M.length (cells M) ∧ wr.heap[it]? = some (.stringIter s j)

set_option maxRecDepth 100000 in
set_option maxHeartbeats 4000000 in
theorem Do_shape (w : World) (b : Nat) (F : List Nat) (L : List Int) (h : StackAt w b F L) (op : Int) (t : Nat) (ps : List Nat) (hS : ∀ w, ShapeSays op t (places ps) w) (hps : ∀ i ∈ ps, i < t) (ht4 : t ≤ 4) (hp6 : ps.length ≤ 6)
    (h40 : ¬ op = 40) (h41 : ¬ op = 41) (h42 : ¬ op = 42) (h35 : ¬ op = 35) (hL : L.length ≤ 128) (ht : t ≤ L.length) (hroom : L.length - t + ps.length ≤ 128) :
    Calls Tryz.prog 42 #[.pointer (some ⟨b, 0, none⟩), .int .i64 op] w fun e w' =>
      ∃ F', e = .returned (.int .i64 0) ∧ StackAt w' b F' (L.take (L.length - t) ++ ps.map fun i => (L.drop (L.length - t)).getD i 0) ∧ Touch F w w' ∧ Sub w F F' := by
  obtain ⟨s, hs⟩ : ∃ s, places ps = s := ⟨_, rfl⟩
  have hsz : s.size = ps.length := by rw [← hs, places_size]
  have hat : ∀ j (hj : j < s.size), (s[j]'hj).toNat = 97 + ps.getD j 0 := by
    subst hs
    exact places_at ps (fun i hi => by have := hps i hi; omega)
  rw [hs] at hS
  obtain ⟨v0, hb0, hF0, hnb0, hr0⟩ := id h
  obtain ⟨a0, c0, rfl⟩ := row_value hr0
  have HL := Lib.hid h.lt
  have H := Lib.hid h
  have g0 := hb0.cell 0
  obtain ⟨n, hn⟩ : ∃ n, L.length = n := ⟨_, rfl⟩
  have Hh := Lib.hid (And.intro hps hat)
  have Hn := Lib.hid hn
  rw [hn] at hL ht hroom g0 ⊢
  have Hb := Lib.hid hb0
  clear h hb0 hF0 hnb0 hr0 hps hat hn hs
  obtain ⟨m, hm⟩ : ∃ m, n - t = m := ⟨_, rfl⟩
  rw [hm] at hroom ⊢
  have e1 : ¬ (n : Int) < t := by omega
  have e2 : IntKind.i64.wrap ((n : Int) - t) = m := by rw [IntKind.wrap_i64]; omega
  have e3 : IntKind.i64.wrap ((m : Int) + (s.size : Int)) = (m + ps.length : Nat) := by rw [IntKind.wrap_i64, hsz]; omega
  have e4 : ¬ ((m + ps.length : Nat) : Int) > 128 := by omega
  go_enter Tryz.func42, Tryz.ntmps42
  have b40 : (op == 40) = false := by simp [h40]
  have b41 : (op == 41) = false := by simp [h41]
  have b42 : (op == 42) = false := by simp [h42]
  have b35 : (op == 35) = false := by simp [h35]
  go_wp2_with fail
  refine (hS _).mono ?_
  rintro _ w1 ⟨rfl, t1⟩
  go_upto_region 8 with (fail)
  have hFw : ∀ f, f ∈ F → f < w1.heap.size := fun f hf => Nat.lt_of_lt_of_le (HL.out f hf) t1.size
  have hSA : StackAt (w1.alloc (.cells #[.int .i64 t, .string s] 120)) b F L := (H.out.touch t1 (by simp)).alloc _
  have bA := Blk.new w1 120 #[.int .i64 t, .string s]
  have tA := t1.alloc (.cells #[.int .i64 t, .string s] 120)
  have hbF : b ∈ F := by obtain ⟨v, _, rfl, _⟩ := H.out; simp
  have g1 : (w1.alloc (.cells #[.int .i64 t, .string s] 120)).cell? ⟨b, 0, none⟩ = some (.slice a0 n c0) := (tA.cell (p := ⟨b, 0, none⟩) (HL.out b hbF) (by simp)).trans g0
  have hFS : w1.heap.size ∉ F := fun hf => Nat.lt_irrefl _ (hFw _ hf)
  have hSw : w.heap.size ≤ w1.heap.size := t1.size
  generalize hwA : w1.alloc (.cells #[.int .i64 t, .string s] 120) = wA at *
  generalize hBS : w1.heap.size = BS at *
  clear hwA hBS t1 g0 Hb
  have hT := Take_ok wA b F L hSA t (by rw [Hn.out]; omega) (by rw [Hn.out]; omega)
  rw [Hn.out, hm] at hT
  have hML : (L.drop m).length = t := by rw [List.length_drop, Hn.out]; omega
  have z0 := bA.cell 0
  have z1 := bA.cell 1
  have HA := Lib.hid tA
  have HS := Lib.hid hSA
  clear tA hSA
  go_wp2_with fail
  refine hT.mono ?_
  rintro _ w2 ⟨v, rfl, hown, hS2, t2⟩
  have hBA := bA.lt
  have y0 := (t2.cell (p := ⟨BS, 0, none⟩) hBA hFS).trans z0
  have y1 := (t2.cell (p := ⟨BS, 1, none⟩) hBA hFS).trans z1
  have T2 := Lib.hid ((HA.out.mono (G := F) (by simp)).trans t2 (fun g hg => .inl hg))
  clear hT z0 z1 bA g1
  go_upto_region 19 with (fail)
  have hAlen : (L.take m).length = m := by rw [List.length_take, Hn.out]; omega
  have D0 : DoAt w b F (L.take m) v (L.drop m) w2.heap.size s ps 0 (w2.iter s 0) := by
    refine ⟨F, by rw [List.take_zero, List.map_nil, List.append_nil]; exact hS2.alloc _, T2.out.alloc _, Sub.refl _ _, fun hf => Nat.lt_irrefl _ (Nat.lt_of_lt_of_le (HL.out _ hf) T2.out.size), T2.out.size, ?_, ?_, World.iter_heap w2 s 0⟩
    · intro g hg
      have h1 := hown.lt g (rowOf_mem.1 hg)
      have h2 := HA.out.size
      exact ⟨fun hf => by have := HL.out _ hf; omega, by omega, by omega⟩
    · rw [hML]
      exact (Go.Joins.ownsRow_le hown (Nat.zero_le _)).alloc _
  have hv : ∃ a c, v = .slice a t c := row_value (Go.Joins.ownsRow_le hown (Nat.zero_le _))
  obtain ⟨av, cv, rfl⟩ := hv
  generalize w2.iter s 0 = W0 at D0 ⊢
  generalize w2.heap.size = it at D0 ⊢
  generalize hA : L.take m = A at *
  generalize hM : L.drop m = M at *
  clear hS2 hown t2 y0 y1 T2 HA HS HL H hS hbF hFS hFw hSw hBA
  have HAM := Lib.hid (And.intro hA hM)
  clear hA hM
  go_loopg [11] ps.length (fun gf _ wr => ∃ j, j ≤ ps.length ∧ ps.length ≤ j + gf ∧ DoAt w b F A (.slice av t cv) M it s ps j wr)
  case atStart => exact ⟨0, by omega, by omega, D0⟩
  case round =>
    obtain ⟨j, hj, hgj, hD⟩ := hrel
    clear D0
    by_cases hlt : j < ps.length
    · obtain ⟨g', rfl⟩ : ∃ g', gk = g' + 1 := ⟨gk - 1, by omega⟩
      have hjs : j < s.size := by omega
      obtain ⟨p, hp⟩ : ∃ p, ps.getD j 0 = p := ⟨_, rfl⟩
      have hpt : p < t := by
        have := Hh.out.1 (ps.getD j 0) (by rw [List.getD, List.getElem?_eq_getElem hlt]; exact List.getElem_mem hlt)
        omega
      have hch := Hh.out.2 j hjs
      rw [hp] at hch
      obtain ⟨F', d1, d2, d3, d4, d5, d6, d7, d8⟩ := hD
      have hnx : ∀ ty, (Instr.next (.pointer (some ⟨it, 0, none⟩)) true ty).run Tryz.prog wr = _ := fun ty => Lib.run_next_ascii_at wr it s j ty d8 hjs (by omega)
      rw [hch] at hnx
      have i8 := Lib.iterAt_heap wr it s j (j + 1) d8
      have i1 := d1.iter d4 s (j + 1)
      have i2 := iter_touch d2 (k := it) (.inr d5) s (j + 1)
      have i7 : (wr.iterAt it s (j + 1)).ownsRow 0 36 1 (.slice av t cv) M.length (cells M) := row_touch d7 (iter_touch (Touch.refl [it] wr) (by simp) s (j + 1)) (fun g hg hf => (d6 g hg).2.1 (by simpa using hf))
      generalize wr.iterAt it s (j + 1) = W at *
      obtain ⟨g, rfl⟩ : ∃ g, av = some ⟨g, 0, none⟩ := by
        rcases Go.Joins.ownsRow_forms i7 with ⟨e, e'⟩ | ⟨g, cap, e⟩
        · omega
        · cases e; exact ⟨g, rfl⟩
      have i7' := i7
      rw [hML] at i7'
      have hcell : W.cell? ⟨g, p, none⟩ = some (.int .i64 (M.getD p 0)) := by
        rw [i7'.cellAt p (by omega)]
        exact cells_get M p (by omega)
      obtain ⟨x, hx⟩ : ∃ x, M.getD p 0 = x := ⟨_, rfl⟩
      rw [hx] at hcell
      have hPu := Push_ok W b F' _ i1 (by rw [List.length_append, List.length_map, List.length_take, hAlen]; omega) x
      have K := Lib.hid (And.intro i8 (And.intro i2 (And.intro i7 (And.intro d3 (And.intro d4 (And.intro d5 d6))))))
      clear d1 d2 d3 d4 d5 d6 d7 d8 i8 i1 i2 i7 i7' hch
      have ep : IntKind.i32.wrap ((97 + p : Nat) - 97) = p := by rw [IntKind.wrap_i32]; omega
      have Hx := Lib.hid (And.intro hx hp)
      clear hx hp
      go_wp2_with fail
      refine hPu.mono ?_
      rintro _ w3 ⟨F'', rfl, hs3, t3, hsub3⟩
      obtain ⟨i8, i2, i7, d3, d4, d5, d6⟩ := K.out
      have hD3 : DoAt w b F A (.slice (some ⟨g, 0, none⟩) t cv) M it s ps (j + 1) w3 := by
        have hWs : w.heap.size ≤ W.heap.size := i2.size
        have hitW : it < W.heap.size := (Array.getElem?_eq_some_iff.1 i8).1
        have hgW : ∀ g' ∈ rowOf (.slice (some ⟨g, 0, none⟩) t cv), g' < W.heap.size := fun g' hg' => row_lt i7 hg'
        refine ⟨F'', ?_, i2.trans t3 d3, Sub.trans d3 hsub3 hWs, ?_, d5, ?_, ?_, ?_⟩
        · have e : (ps.take (j + 1)).map (fun i => M.getD i 0) = (ps.take j).map (fun i => M.getD i 0) ++ [x] := by
            rw [List.take_add_one, List.map_append]
            congr 1
            have := Hx.out.1
            have h2 := Hx.out.2
            rw [List.getElem?_eq_getElem hlt]
            rw [List.getD, List.getElem?_eq_getElem hlt] at h2
            simp only [Option.getD_some] at h2
            simp [h2]
            exact this
          rw [e, ← List.append_assoc]
          exact hs3
        · intro hf
          rcases hsub3 _ hf with h | h
          · exact d4 h
          · omega
        · intro g' hg'
          refine ⟨fun hf => ?_, (d6 g' hg').2⟩
          rcases hsub3 _ hf with h | h
          · exact (d6 g' hg').1 h
          · have := hgW g' hg'; omega
        · exact row_touch i7 t3 (fun g' hg' => (d6 g' hg').1)
        · exact (t3.block it hitW d4).trans i8
      clear hs3 t3 hsub3 i8 i2 i7 d3 d4 d5 d6 K hnx hcell
      go_wp2
      go_roundg g'
      case measure => omega
      case rel => exact ⟨j + 1, by omega, by omega, hD3⟩
    · have hje : j = ps.length := by omega
      subst hje
      obtain ⟨F', d1, d2, d3, d4, d5, d6, d7, d8⟩ := hD
      have hnx : ∀ ty, (Instr.next (.pointer (some ⟨it, 0, none⟩)) true ty).run Tryz.prog wr = _ := fun ty => Lib.run_next_end_at wr it s ps.length ty d8 (by omega)
      clear d4 d5 d6 d7 d8
      go_wp2
      go_ret
      rw [List.take_length] at d1
      rw [HAM.out.1, HAM.out.2]
      exact ⟨F', rfl, d1, d2, d3⟩
end Go.Proofs.YtkbchpaofmlhgaaGreatDoor
