/- scan.Fold: great letters made small. -/
import Derived.Test.YtgdmiodcfdcihaaGreatDoorWorld
namespace Go.Proofs.YtgdmiodcfdcihaaGreatDoor
open Go.RowKit

/-- a byte made small -/
def foldC (c : Nat) : Nat := if 65 ≤ c ∧ c ≤ 90 then c + 32 else c
def foldB (s : ByteArray) : ByteArray := ⟨(s.data.toList.map fun c => UInt8.ofNat (foldC c.toNat)).toArray⟩

theorem foldC_lt (c : UInt8) : foldC c.toNat < 256 := by
  have := c.toNat_lt
  unfold foldC
  split <;> omega
theorem foldC_back (c : UInt8) : (UInt8.ofNat (foldC c.toNat)).toNat = foldC c.toNat := by
  rw [UInt8.toNat_ofNat']
  exact Nat.mod_eq_of_lt (foldC_lt c)
theorem foldC_yes (c : UInt8) (h : 65 ≤ c.toNat ∧ c.toNat ≤ 90) : IntKind.u8.wrap (IntKind.u8.wrap ((c.toNat : Int) - 65) + 97) = (foldC c.toNat : Int) := by
  unfold foldC
  rw [if_pos h]
  simp only [IntKind.wrap_u8]
  omega
theorem foldC_no (c : UInt8) (h : ¬ (65 ≤ c.toNat ∧ c.toNat ≤ 90)) : foldC c.toNat = c.toNat := by
  unfold foldC
  rw [if_neg h]

/-- between two rounds: the first k bytes are made small -/
def FoldAt (w : World) (s : ByteArray) (k : Nat) (wr : World) : Prop :=
  Touch [] w wr ∧ (∀ j (h : j < s.size), wr.cell? ⟨w.heap.size, j, none⟩ = some (.int .u8 (if j < k then foldC s.data[j].toNat else s.data[j].toNat : Nat)) ∧ wr.frozen? ⟨w.heap.size, j, none⟩ = false)

theorem FoldAt.step {w wr : World} {s : ByteArray} {k : Nat} (h : FoldAt w s k wr) (hk : k < s.size) (u : Int) (hu : u = (foldC s.data[k].toNat : Int)) : FoldAt w s (k + 1) (wr.setCell ⟨w.heap.size, k, none⟩ (.int .u8 u)) := by
  subst hu
  refine ⟨h.1.setCell (.inr (Nat.le_refl _)) _, fun j hj => ?_⟩
  obtain ⟨hc, hf⟩ := h.2 j hj
  refine ⟨?_, by simpa using hf⟩
  by_cases e : j = k
  · subst e
    rw [World.cell?_setCell_same _ _ _ hc]
    simp
  · rw [World.cell?_setCell_other _ _ _ _ (by simp), hc]
    have : j < k ↔ j < k + 1 := by omega
    simp [this]
theorem FoldAt.stay {w wr : World} {s : ByteArray} {k : Nat} (h : FoldAt w s k wr) (hk : k < s.size) (hn : ¬ (65 ≤ s.data[k].toNat ∧ s.data[k].toNat ≤ 90)) : FoldAt w s (k + 1) wr := by
  refine ⟨h.1, fun j hj => ?_⟩
  obtain ⟨hc, hf⟩ := h.2 j hj
  refine ⟨?_, hf⟩
  rw [hc]
  by_cases e : j = k
  · subst e
    simp [foldC_no _ hn]
  · have : j < k ↔ j < k + 1 := by omega
    simp [this]
theorem FoldAt.start (w : World) (s : ByteArray) (cap : Nat) (m : Nat) : FoldAt w s 0 (w.drew.alloc (.cells (bytesRow s cap) 5 (((bytesRow s cap).size), m))) := by
  refine ⟨(Touch.refl _ _).drew.alloc _, fun j hj => ?_⟩
  have hz : (bytesRow s cap).size = s.size + (cap - s.size) := by simp [bytesRow]
  constructor
  · have := World.cell?_alloc_mark w.drew (bytesRow s cap) 5 ((bytesRow s cap).size, m) j
    rw [show w.drew.heap.size = w.heap.size from rfl] at this
    rw [this, bytesRow_at s cap j hj]
    simp
  · have := World.frozen?_alloc_mark w.drew (bytesRow s cap) 5 (bytesRow s cap).size m j
    rw [show w.drew.heap.size = w.heap.size from rfl] at this
    rw [this]
    simp
    omega

set_option maxHeartbeats 1600000 in
set_option maxRecDepth 100000 in
theorem Fold_any (s : ByteArray) (hs : s.size ≤ 100000) (w : World) : Calls Tryz.prog 41 #[.string s] w fun e w' => e = .returned (.string (foldB s)) ∧ Touch [] w w' := by
  have h1 := run_bytes_of_string (P := Tryz.prog) w 9 29 5 s Tryz.underlying9 Tryz.underlying29 Tryz.underlying5
  generalize hcap : grownCap w s.size 0 5 = cap at h1
  obtain ⟨m, hm⟩ : ∃ m, (bytesRow s cap).size + 1 = m := ⟨_, rfl⟩
  rw [hm] at h1
  have h0 := FoldAt.start w s cap m
  generalize hw0 : w.drew.alloc (.cells (bytesRow s cap) 5 (((bytesRow s cap).size), m)) = w0 at h1 h0
  clear hw0 hm hcap
  go_enter Tryz.func41, Tryz.ntmps41
  go_wp2_with fail
  go_loopw [10] (fun i wr => ∃ k : Nat, k ≤ s.size ∧ i = .int .i64 k ∧ FoldAt w s k wr) (fun i _ => s.size - (intOf i).toNat)
  case atStart => exact ⟨0, Nat.zero_le _, rfl, h0⟩
  case round =>
    obtain ⟨k, hk, rfl, hF⟩ := hrel
    by_cases hlt : k < s.size
    · obtain ⟨hc, hf⟩ := hF.2 k hlt
      simp only [Nat.lt_irrefl, if_false] at hc
      by_cases hb : 65 ≤ s.data[k].toNat ∧ s.data[k].toNat ≤ 90
      · go_wp2_with fail
        refine ⟨⟨k + 1, by omega, rfl, hF.step hlt _ ?_⟩, ?_⟩
        · rw [foldC, if_pos hb]
          omega
        · simp only [intOf]
          omega
      · go_wp2_with fail
        all_goals refine ⟨⟨k + 1, by omega, rfl, hF.stay hlt hb⟩, ?_⟩
        all_goals simp only [intOf]
        all_goals omega
    · obtain rfl : k = s.size := by omega
      have h2 := run_convert_bytes_back (P := Tryz.prog) wr 29 9 5 ⟨w.heap.size, 0, none⟩ cap (s.data.toList.map fun c => UInt8.ofNat (foldC c.toNat)) Tryz.underlying29 Tryz.underlying5 Tryz.underlying9 (fun j hj => by
        have hj' : j < s.size := by simpa using hj
        have := (hF.2 j hj').1
        rw [if_pos hj'] at this
        rw [show (Addr.mk w.heap.size 0 none).add j = ⟨w.heap.size, j, none⟩ from by unfold Addr.add; split <;> simp_all]
        simp only [List.getElem_map]
        rw [this, foldC_back]
        rfl)
      simp only [List.length_map, Array.length_toList] at h2
      have hz : s.data.size = s.size := rfl
      rw [hz] at h2
      go_wp2_with fail
      go_ret
      exact ⟨rfl, hF.1⟩
end Go.Proofs.YtgdmiodcfdcihaaGreatDoor
