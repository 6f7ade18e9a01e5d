/- rhytonlaw16.filled: the same words in both dictionaries. -/
import Derived.Test.YtgdmiodcfdcihaaGreatDoorRef9c
import Derived.Test.YtgdmiodcfdcihaaGreatDoorNames
namespace Go.Proofs.YtgdmiodcfdcihaaGreatDoor
open Go.RowKit

theorem row_form {w : World} {base : Nat} {u : Value} {zs : List Small} (hr : w.ownsRow base 9 1 u zs.length (zs.map fun z => .string z.1)) (hz : zs.length ≠ 0) :
    ∃ g cap, u = .slice (some ⟨g, 0, none⟩) zs.length cap ∧ base ≤ g ∧ g < w.heap.size ∧ ∀ j, j < zs.length → w.cell? ⟨g, 0 + j, none⟩ = some (.string (zs.getD j Small.nil).1) := by
  obtain ⟨g, cap, rfl, hb, hg⟩ := hr.form (by omega)
  refine ⟨g, cap, rfl, hb, hg, fun j hj => ?_⟩
  rw [Nat.zero_add, hr.cellAt j (by omega), List.getElem?_map, List.getD_eq_getElem?_getD, List.getElem?_eq_getElem hj]
  rfl

/-- the words of these names, by their numbers from 1 on, every second one now -/
def fillL (zs : List Small) : Nat → List Head
  | 0 => []
  | k + 1 => if k % 2 = 1 then nowL (addL (fillL zs k) (zs.getD k Small.nil).1 ((k : Int) + 1)) else addL (fillL zs k) (zs.getD k Small.nil).1 ((k : Int) + 1)
theorem fillL_len (zs : List Small) : ∀ k, (fillL zs k).length ≤ k
  | 0 => Nat.le_refl _
  | k + 1 => by
    have := fillL_len zs k
    have h := addL_len (fillL zs k) (zs.getD k Small.nil).1 ((k : Int) + 1)
    rw [fillL]
    split
    · rw [nowL_len]; omega
    · omega

/-- both dictionaries side by side; the blocks from m to M are as they were in w3 -/
structure Fill (W w3 : World) (m : Nat) (D R : Nat) (F G : List Nat) (LD LR : List Head) (wr : World) : Prop where
  dict : DictAt wr D F LD
  ref : RefAt wr R G LR
  apart : ∀ f, f ∈ F → f ∉ G
  far : ∀ f, f ∈ F ∨ f ∈ G → W.heap.size ≤ f ∧ (f < m ∨ w3.heap.size ≤ f)
  mid : ∀ k, m ≤ k → k < w3.heap.size → wr.heap[k]? = w3.heap[k]?
  touch : Touch [] W wr
  size : w3.heap.size ≤ wr.heap.size
section
variable {W w3 wr w' : World} {m D R : Nat} {F G F' G' : List Nat} {LD LR LD' LR' : List Head}
theorem Fill.d (h : Fill W w3 m D R F G LD LR wr) (hd : DictAt w' D F' LD') (t : Touch F wr w') (hs : ∀ f, f ∈ F' → f ∈ F ∨ wr.heap.size ≤ f) : Fill W w3 m D R F' G LD' LR w' := by
  have hsz := h.touch.size
  refine ⟨hd, h.ref.touch t (fun f hf hF => h.apart f hF hf), ?_, ?_, ?_, h.touch.trans t (fun f hf => .inr (h.far f (.inl hf)).1), Nat.le_trans h.size t.size⟩
  · intro f hf hg
    rcases hs f hf with h1 | h1
    · exact h.apart f h1 hg
    · have := h.ref.lt f hg
      omega
  · intro f hf
    have hz := h.size
    rcases hf with hf | hf
    · rcases hs f hf with h1 | h1
      · exact h.far f (.inl h1)
      · exact ⟨by omega, .inr (by omega)⟩
    · exact h.far f (.inr hf)
  · intro k h1 h2
    rw [t.block k (Nat.lt_of_lt_of_le h2 h.size) (fun hk => by have := (h.far k (.inl hk)).2; omega)]
    exact h.mid k h1 h2
theorem Fill.r (h : Fill W w3 m D R F G LD LR wr) (hr : RefAt w' R G' LR') (t : Touch G wr w') (hs : ∀ f, f ∈ G' → f ∈ G ∨ wr.heap.size ≤ f) : Fill W w3 m D R F G' LD LR' w' := by
  have hsz := h.touch.size
  refine ⟨h.dict.touch t (fun f hf hG => h.apart f hf hG), hr, ?_, ?_, ?_, h.touch.trans t (fun f hf => .inr (h.far f (.inr hf)).1), Nat.le_trans h.size t.size⟩
  · intro f hf hg
    rcases hs f hg with h1 | h1
    · exact h.apart f hf h1
    · have := h.dict.lt f hf
      omega
  · intro f hf
    have hz := h.size
    rcases hf with hf | hf
    · exact h.far f (.inl hf)
    · rcases hs f hf with h1 | h1
      · exact h.far f (.inr h1)
      · exact ⟨by omega, .inr (by omega)⟩
  · intro k h1 h2
    rw [t.block k (Nat.lt_of_lt_of_le h2 h.size) (fun hk => by have := (h.far k (.inr hk)).2; omega)]
    exact h.mid k h1 h2
end

set_option maxRecDepth 100000 in
set_option maxHeartbeats 3200000 in
theorem filled_any (W : World) (v : Value) (ss : List ByteArray) (hS : ∀ w', Touch [] W w' → Strs w' v ss) :
    Calls Tryz.prog 10 #[v] W fun e w' => ∃ D R F G, e = .returned (.tuple #[.pointer (some ⟨D, 0, none⟩), .pointer (some ⟨R, 0, none⟩)]) ∧
      DictAt w' D F (fillL (namesF ss) (namesF ss).length) ∧ RefAt w' R G (fillL (namesF ss) (namesF ss).length) ∧ (∀ f, f ∈ F → f ∉ G) ∧ (∀ f, f ∈ F ∨ f ∈ G → W.heap.size ≤ f) ∧ Touch [] W w' := by
  have hnm := fun w' (u : Touch [] W w') => names_any w' v ss (hS w' u)
  obtain ⟨zs, hzs⟩ : ∃ zs, namesF ss = zs := ⟨_, rfl⟩
  have hz12 : zs.length ≤ 12 := by rw [← hzs]; unfold namesF; simp; omega
  simp only [hzs] at hnm ⊢
  have h30 : ∀ j, (zs.getD j Small.nil).1.size ≤ 30 := fun j => by
    rw [← hzs]
    unfold namesF
    rw [List.getD_eq_getElem?_getD, List.getElem?_map]
    cases (ss.take 12)[j]? with
    | none => simp [Small.nil]
    | some x => simp [cut30, ByteArray.size_extract]; omega
  clear hzs hS
  go_enter Tryz.func10, Tryz.ntmps10
  go_wp2_with fail
  refine (New_any _).mono ?_
  rintro _ w1 ⟨D, F, rfl, hd, t1, hF⟩
  go_wp2_with fail
  refine (RNew_any _).mono ?_
  rintro _ w2 ⟨R, G, rfl, hg, t2, hG⟩
  have t12 := t1.trans t2 (by simp)
  go_wp2_with fail
  refine (hnm w2 t12).mono ?_
  rintro _ w3 ⟨u, rfl, hr, t3⟩
  have hd1 := hd.lt
  have hg2 := hg.lt
  have hfill : Fill W w3 w2.heap.size D R F G [] [] w3 := by
    refine ⟨(hd.quiet t2).quiet t3, hg.touch t3 (by simp), ?_, ?_, fun _ _ _ => rfl, t12.trans t3 (by simp), Nat.le_refl _⟩
    · intro f hf hfg
      have h1 := hd1 f hf
      have h2 := hG f hfg
      omega
    · intro f hf
      have := t1.size
      have h2s := t2.size
      rcases hf with hf | hf
      · have h1 := hd1 f hf
        exact ⟨hF f hf, .inl (by omega)⟩
      · have h2 := hG f hf
        have h3 := hg2 f hf
        exact ⟨by omega, .inl (by omega)⟩
  clear hnm hd hg hd1 hg2 hF hG t1 t2 t3 t12
  obtain ⟨a, cap, rfl, hcell⟩ : ∃ a cap, u = .slice a zs.length cap ∧ ∀ wr F G LD LR, Fill W w3 w2.heap.size D R F G LD LR wr → ∀ j, j < zs.length → ∃ g, a = some ⟨g, 0, none⟩ ∧ g < wr.heap.size ∧ wr.cell? ⟨g, 0 + j, none⟩ = some (.string (zs.getD j Small.nil).1) := by
    by_cases hz0 : zs.length = 0
    · rcases hr.2 with ⟨rfl, h0⟩ | ⟨g, cap, cur, h1, _⟩
      · exact ⟨none, 0, by rw [h0], fun _ _ _ _ _ _ j hj => absurd hj (by omega)⟩
      · exact ⟨_, cap, h1, fun _ _ _ _ _ _ j hj => absurd hj (by omega)⟩
    · obtain ⟨g, cap, rfl, hb, hg, hc⟩ := row_form hr hz0
      refine ⟨_, cap, rfl, fun wr F G LD LR hf j hj => ⟨g, rfl, Nat.lt_of_lt_of_le hg hf.size, ?_⟩⟩
      rw [World.cell?_of_block (hf.mid g hb hg)]
      exact hc j hj
  have HC := Lib.hid hcell
  have HF := Lib.hid hfill
  clear hr hcell hfill
  go_wp2_with fail
  go_loopw [13] (fun i wr => ∃ (k : Nat) (F G : List Nat), k ≤ zs.length ∧ i = .int .i64 k ∧ Fill W w3 w2.heap.size D R F G (fillL zs k) (fillL zs k) wr) (fun i _ => zs.length - (intOf i).toNat)
  case atStart => exact ⟨0, F, G, Nat.zero_le _, rfl, HF.out⟩
  case round =>
    obtain ⟨k, F, G, hk, rfl, hf⟩ := hrel
    by_cases hlt : k < zs.length
    · obtain ⟨g, rfl, hgl, hc⟩ := HC.out _ _ _ _ _ hf k hlt
      rw [Nat.zero_add] at hc
      have h30k := h30 k
      have hlen := fillL_len zs k
      have hnext : fillL zs (k + 1) = if k % 2 = 1 then nowL (addL (fillL zs k) (zs.getD k Small.nil).1 ((k : Int) + 1)) else addL (fillL zs k) (zs.getD k Small.nil).1 ((k : Int) + 1) := rfl
      obtain ⟨x, hx⟩ : ∃ x, (zs.getD k Small.nil).1 = x := ⟨_, rfl⟩
      rw [hx] at hc h30k hnext
      obtain ⟨L, hL⟩ : ∃ L, fillL zs k = L := ⟨_, rfl⟩
      rw [hL] at hf hlen hnext
      have hadd := fun w F (h : DictAt w D F L) => DAdd_any w D F L h (by omega) x (by omega) ((k : Int) + 1)
      have hradd := fun w F (h : RefAt w R F L) => RAdd_any w R F L h (by omega) x (by omega) ((k : Int) + 1)
      have hlen2 := addL_len L x ((k : Int) + 1)
      obtain ⟨L2, hL2⟩ : ∃ L2, addL L x ((k : Int) + 1) = L2 := ⟨_, rfl⟩
      rw [hL2] at hnext hlen2
      simp only [hL2] at hadd hradd
      have hnow := fun w F (h : DictAt w D F L2) => Now_any w D F L2 h (by omega)
      have hrnow := fun w F (h : RefAt w R F L2) => RNow_any w R F L2 h (by omega)
      have HNx := Lib.hid hnext
      clear hx hL hL2 hnext hlen2 hlen
      go_wp2_with fail
      refine (hadd _ _ hf.dict).mono ?_
      rintro _ w4 ⟨v4, F4, rfl, hd4, t4, s4⟩
      have hf4 := hf.d hd4 t4 s4
      clear hadd hd4 t4 s4 hf
      go_wp2_with fail
      refine (hradd _ _ hf4.ref).mono ?_
      rintro _ w5 ⟨v5, G5, rfl, hd5, t5, s5⟩
      have hf5 := hf4.r hd5 t5 s5
      clear hradd hd5 t5 s5 hf4
      by_cases hpar : k % 2 = 1
      · have hpar' : ((k : Int).tmod 2 == 1) = true := by
          rw [beq_iff_eq, Int.tmod_eq_emod_of_nonneg (by omega)]
          omega
        go_wp2_with fail
        refine (hnow _ _ hf5.dict).mono ?_
        rintro _ w6 ⟨v6, rfl, hd6, t6⟩
        have hf6 := hf5.d hd6 t6 (fun _ h => .inl h)
        clear hnow hd6 t6 hf5
        go_wp2_with fail
        refine (hrnow _ _ hf6.ref).mono ?_
        rintro _ w7 ⟨v7, rfl, hd7, t7⟩
        have hf7 := hf6.r hd7 t7 (fun _ h => .inl h)
        clear hrnow hd7 t7 hf6
        go_wp2_with fail
        refine ⟨⟨k + 1, F4, G5, by omega, rfl, ?_⟩, by simp only [intOf]; omega⟩
        rw [HNx.out, if_pos hpar]
        exact hf7
      · have hpar' : ((k : Int).tmod 2 == 1) = false := by
          rw [beq_eq_false_iff_ne, Int.tmod_eq_emod_of_nonneg (by omega)]
          omega
        clear hnow hrnow
        go_wp2_with fail
        refine ⟨⟨k + 1, F4, G5, by omega, rfl, ?_⟩, by simp only [intOf]; omega⟩
        rw [HNx.out, if_neg hpar]
        exact hf5
    · obtain rfl : k = zs.length := by omega
      have HF2 := Lib.hid hf
      clear hf
      go_wp2_with fail
      go_ret2
      exact ⟨D, R, F, G, rfl, HF2.out.dict, HF2.out.ref, HF2.out.apart, fun f hf => (HF2.out.far f hf).1, HF2.out.touch⟩
end Go.Proofs.YtgdmiodcfdcihaaGreatDoor
