/- The memory: bytes in a row, of which some are given out. -/
import Derived.Test.YtkbchpaofmlhgaaGreatDoorStk2
import Derived.Test.YtkbchpaofmlhgaaGreatDoorCell
import Derived.BigQuiet
namespace Go.Proofs.YtkbchpaofmlhgaaGreatDoor
open Go.RowKit

def bytesV (bs : List Int) : List Value := bs.map (Value.int .u8)
def Bytes (bs : List Int) : Prop := ∀ x ∈ bs, 0 ≤ x ∧ x ≤ 255
structure MemAt (w : World) (m g n : Nat) (bs : List Int) (here : Nat) : Prop where
  blk : Blk w m 114 #[.slice (some ⟨g, 0, none⟩) n n, .int .i64 here]
  row : Blk w g 5 (bytesV bs).toArray
  len : bs.length = n
  byte : Bytes bs
  small : n ≤ 65536
  low : here ≤ n
section
variable {w w' : World} {m g n here : Nat} {bs : List Int}
theorem MemAt.touch {F : List Nat} (h : MemAt w m g n bs here) (t : Touch F w w') (h1 : m ∉ F) (h2 : g ∉ F) : MemAt w' m g n bs here := ⟨h.blk.touch t h1, h.row.touch t h2, h.len, h.byte, h.small, h.low⟩
theorem MemAt.ne (h : MemAt w m g n bs here) : m ≠ g := by
  intro e
  have h1 := h.blk
  have h2 := h.row
  subst e
  unfold Blk at h1 h2
  rw [h1] at h2
  injection h2 with h2
  injection h2 with _ h2 _
  cases h2
theorem MemAt.cell (h : MemAt w m g n bs here) {i : Nat} (hi : i < n) : w.cell? ⟨g, i, none⟩ = some (.int .u8 (bs.getD i 0)) := by
  rw [h.row.cell i]
  simp [bytesV, List.getD, List.getElem?_eq_getElem (show i < bs.length by rw [h.len]; exact hi)]
theorem Bytes.getD (h : Bytes bs) (i : Nat) : 0 ≤ bs.getD i 0 ∧ bs.getD i 0 ≤ 255 := by
  rw [List.getD]
  cases e : bs[i]? with
  | none => simp
  | some x => exact h x (List.mem_of_getElem? e)

theorem Size_any (h : MemAt w m g n bs here) : Calls Tryz.prog 66 #[.pointer (some ⟨m, 0, none⟩)] w fun e w' => e = .returned (.int .i64 n) ∧ w = w' := by
  have c0 := h.blk.cell 0
  clear h
  go_enter Tryz.func66, Tryz.ntmps66
  go_wp2
  go_ret
  exact ⟨rfl, rfl⟩
theorem Here_any (h : MemAt w m g n bs here) : Calls Tryz.prog 33 #[.pointer (some ⟨m, 0, none⟩)] w fun e w' => e = .returned (.int .i64 here) ∧ w = w' := by
  have c0 := h.blk.cell 1
  clear h
  go_enter Tryz.func33, Tryz.ntmps33
  go_wp2
  go_ret
  exact ⟨rfl, rfl⟩
set_option maxHeartbeats 1000000 in
theorem piece_ok (h : MemAt w m g n bs here) (p k : Nat) (hk : p + k ≤ n) : Calls Tryz.prog 63 #[.pointer (some ⟨m, 0, none⟩), .int .i64 p, .int .i64 k] w fun e w' => ∃ a, e = .returned (.tuple #[.slice (some a) k k, .int .i64 0]) ∧ (0 < k → a = ⟨g, p, none⟩) ∧ Touch [] w w' := by
  have hS := Size_any h
  have c0 := h.blk.cell 0
  have hs := h.small
  have e1 : IntKind.i64.wrap ((n : Int) - p) = n - p := by rw [IntKind.wrap_i64]; omega
  have e2 : IntKind.i64.wrap ((p : Int) + k) = (p + k : Nat) := by rw [IntKind.wrap_i64]; omega
  have g1 : ¬ (p : Int) < 0 := by omega
  have g2 : ¬ (p : Int) > n := by omega
  have g3 : ¬ (k : Int) < 0 := by omega
  have g4 : ¬ (k : Int) > n - p := by omega
  clear h
  go_enter Tryz.func63, Tryz.ntmps63
  go_wp2_with fail
  refine hS.mono ?_
  rintro _ _ ⟨rfl, rfl⟩
  clear hS
  go_wp2_with fail
  all_goals go_ret2
  · obtain rfl : k = 0 := by omega
    exact ⟨⟨g, 0, none⟩, rfl, fun h => by omega, Touch.refl _ _⟩
  · exact ⟨⟨g, p, none⟩, rfl, fun _ => rfl, Touch.refl _ _⟩
set_option maxHeartbeats 1000000 in
theorem piece_bad (h : MemAt w m g n bs here) (p k : Int) (hk : p < 0 ∨ n < p ∨ k < 0 ∨ n - p < k) : Calls Tryz.prog 63 #[.pointer (some ⟨m, 0, none⟩), .int .i64 p, .int .i64 k] w fun e w' => e = .returned (.tuple #[.slice none 0 0, .int .i64 (-9)]) ∧ Touch [] w w' := by
  have hS := Size_any h
  have c0 := h.blk.cell 0
  have hs := h.small
  have hcase : p < 0 ∨ (¬ p < 0 ∧ p > n) ∨ (¬ p < 0 ∧ ¬ p > n ∧ k < 0) ∨ (¬ p < 0 ∧ ¬ p > n ∧ ¬ k < 0 ∧ IntKind.i64.wrap ((n : Int) - p) = n - p ∧ k > n - p) := by
    by_cases h1 : p < 0
    · exact .inl h1
    · by_cases h2 : p > n
      · exact .inr (.inl ⟨h1, h2⟩)
      · by_cases h3 : k < 0
        · exact .inr (.inr (.inl ⟨h1, h2, h3⟩))
        · exact .inr (.inr (.inr ⟨h1, h2, h3, by rw [IntKind.wrap_i64]; omega, by omega⟩))
  clear h hk
  rcases hcase with h1 | ⟨h1, h2⟩ | ⟨h1, h2, h3⟩ | ⟨h1, h2, h3, h4, h5⟩
  all_goals
    go_enter Tryz.func63, Tryz.ntmps63
    go_wp2_with fail
    refine hS.mono ?_
    rintro _ _ ⟨rfl, rfl⟩
    go_wp2_with fail
    all_goals go_ret2
    all_goals exact ⟨rfl, Touch.refl _ _⟩
set_option maxHeartbeats 1000000 in
theorem cell_ok (h : MemAt w m g n bs here) (p : Nat) (hp : p + 8 ≤ n) (ha : p % 8 = 0) : Calls Tryz.prog 85 #[.pointer (some ⟨m, 0, none⟩), .int .i64 p] w fun e w' => e = .returned (.tuple #[.slice (some ⟨g, p, none⟩) 8 8, .int .i64 0]) ∧ Touch [] w w' := by
  have hP := piece_ok h p 8 hp
  have hs := h.small
  have e1 : (p : Int).tmod 8 = 0 := by rw [Int.tmod_eq_emod_of_nonneg (by omega)]; omega
  clear h
  go_enter Tryz.func85, Tryz.ntmps85
  go_wp2_with fail
  refine hP.mono ?_
  rintro _ w1 ⟨a, rfl, ha, t1⟩
  obtain rfl := ha (by decide)
  clear hP
  go_wp2_with fail
  go_ret2
  exact ⟨rfl, t1⟩
set_option maxHeartbeats 1000000 in
theorem cell_bad (h : MemAt w m g n bs here) (p : Int) (hp : ¬ (0 ≤ p ∧ p + 8 ≤ n ∧ p % 8 = 0)) : Calls Tryz.prog 85 #[.pointer (some ⟨m, 0, none⟩), .int .i64 p] w fun e w' => (∃ c, e = .returned (.tuple #[.slice none 0 0, .int .i64 c]) ∧ c = (if 0 ≤ p ∧ p + 8 ≤ n then -23 else -9)) ∧ Touch [] w w' := by
  by_cases hin : 0 ≤ p ∧ p + 8 ≤ n
  · obtain ⟨q, rfl⟩ : ∃ q : Nat, p = q := ⟨p.toNat, by omega⟩
    rw [if_pos hin]
    have hP := piece_ok h q 8 (by omega)
    have e1 : ¬ (q : Int) % 8 = 0 := by omega
    have e1' : ((q : Int) % 8 != 0) = true := by simpa using e1
    clear h hin hp
    go_enter Tryz.func85, Tryz.ntmps85
    go_wp2_with fail
    refine hP.mono ?_
    rintro _ w1 ⟨a, rfl, ha, t1⟩
    clear hP ha
    go_wp2_with fail
    go_ret2
    exact ⟨⟨_, rfl, rfl⟩, t1⟩
  · rw [if_neg hin]
    have hP := piece_bad h p 8 (by omega)
    clear h hin hp
    go_enter Tryz.func85, Tryz.ntmps85
    go_wp2_with fail
    refine hP.mono ?_
    rintro _ w1 ⟨rfl, t1⟩
    clear hP
    go_wp2_with fail
    go_ret2
    exact ⟨⟨_, rfl, rfl⟩, t1⟩
/-- the cell at a place, from its bytes -/
def orF (bs : List Int) (p : Nat) : Nat → Int
  | 0 => 0
  | i + 1 => bits .or .i64 (orF bs p i) (wrap64 (bs.getD (p + i) 0 * 2 ^ (8 * i)))
def getF (bs : List Int) (p : Nat) : Int := orF bs p 8
set_option maxRecDepth 100000 in
set_option maxHeartbeats 1000000 in
theorem Get_ok (h : MemAt w m g n bs here) (p : Nat) (hp : p + 8 ≤ n) (ha : p % 8 = 0) : Calls Tryz.prog 47 #[.pointer (some ⟨m, 0, none⟩), .int .i64 p] w fun e w' => e = .returned (.tuple #[.int .i64 (getF bs p), .int .i64 0]) ∧ Touch [] w w' := by
  have hC := cell_ok h p hp ha
  have H := Lib.hid h
  have hs := h.small
  clear h
  go_enter Tryz.func47, Tryz.ntmps47
  go_wp2_with fail
  refine hC.mono ?_
  rintro _ w1 ⟨rfl, t1⟩
  clear hC
  go_wp2_with fail
  go_loopw [19, 8] (fun i xv wr => ∃ j : Nat, j ≤ 8 ∧ i = .int .i64 j ∧ xv = .int .i64 (orF bs p j) ∧ Touch [] w wr) (fun i _ _ => 8 - (intOf i).toNat)
  case atStart => exact ⟨0, Nat.zero_le _, rfl, rfl, t1⟩
  case round =>
    obtain ⟨j, hj, rfl, rfl, t2⟩ := hrel
    clear t1
    by_cases hlt : j < 8
    · have hlt2 : (j : Int) < 8 := by omega
      have hc := (H.out.touch t2 (by simp) (by simp)).cell (i := p + j) (by omega)
      have hb := H.out.byte.getD (p + j)
      obtain ⟨c, hcc⟩ : ∃ c, bs.getD (p + j) 0 = c := ⟨_, rfl⟩
      rw [hcc] at hc hb
      have ek : IntKind.i64.wrap ((j : Int) + 1) = (j + 1 : Nat) := by rw [IntKind.wrap_i64]; omega
      have e8 : IntKind.i64.wrap (8 * (j : Int)) = 8 * j := by rw [IntKind.wrap_i64]; omega
      have ec : IntKind.i64.wrap c = c := by rw [IntKind.wrap_i64]; omega
      have T2 := Lib.hid t2
      have HC := Lib.hid hcc
      clear t2 hcc
      go_wp2_with fail
      go_roundw
      case rel => exact ⟨j + 1, by omega, vint (by omega), by rw [orF, HC.out], T2.out⟩
      case measure => simp only [intOf]; omega
    · obtain rfl : j = 8 := by omega
      have T2 := Lib.hid t2
      clear t2 hlt
      go_wp2_with fail
      go_ret2
      exact ⟨rfl, T2.out⟩
set_option maxRecDepth 100000 in
set_option maxHeartbeats 1000000 in
theorem Get_bad (h : MemAt w m g n bs here) (p : Int) (hp : ¬ (0 ≤ p ∧ p + 8 ≤ n ∧ p % 8 = 0)) : Calls Tryz.prog 47 #[.pointer (some ⟨m, 0, none⟩), .int .i64 p] w fun e w' => e = .returned (.tuple #[.int .i64 0, .int .i64 (if 0 ≤ p ∧ p + 8 ≤ n then -23 else -9)]) ∧ Touch [] w w' := by
  have hC := cell_bad h p hp
  clear h hp
  obtain ⟨c, hc⟩ : ∃ c : Int, (if 0 ≤ p ∧ p + 8 ≤ (n : Int) then (-23 : Int) else -9) = c := ⟨_, rfl⟩
  rw [hc] at hC ⊢
  clear hc
  go_enter Tryz.func47, Tryz.ntmps47
  go_wp2_with fail
  refine hC.mono ?_
  rintro _ w1 ⟨⟨_, rfl, rfl⟩, t1⟩
  clear hC
  go_wp2_with fail
  go_loopw [19, 8] (fun i xv wr => i = .int .i64 0 ∧ xv = .int .i64 0 ∧ Touch [] w wr) (fun i _ _ => 8 - (intOf i).toNat)
  case atStart => exact ⟨rfl, rfl, t1⟩
  case round =>
    obtain ⟨rfl, rfl, t2⟩ := hrel
    clear t1
    go_wp2_with fail
    go_ret2
    exact ⟨rfl, t2⟩

/-- a cell as bytes -/
def putF (bs : List Int) (p : Nat) (x : Int) : Nat → List Int
  | 0 => bs
  | i + 1 => (putF bs p x i).set (p + i) (x / 2 ^ (8 * i) % 256)
theorem putF_len (bs : List Int) (p : Nat) (x : Int) : ∀ i, (putF bs p x i).length = bs.length
  | 0 => rfl
  | i + 1 => by rw [putF, List.length_set, putF_len bs p x i]
theorem u8_range (x : Int) : 0 ≤ x % 256 ∧ x % 256 ≤ 255 := by omega
theorem Bytes.set (h : Bytes bs) (i : Nat) {x : Int} (hx : 0 ≤ x ∧ x ≤ 255) : Bytes (bs.set i x) := fun y hy => by
  rcases List.mem_or_eq_of_mem_set hy with h1 | h1
  · exact h y h1
  · rw [h1]; exact hx
theorem MemAt.store (h : MemAt w m g n bs here) (i : Nat) {x : Int} (hx : 0 ≤ x ∧ x ≤ 255) : MemAt (w.setCell ⟨g, i, none⟩ (.int .u8 x)) m g n (bs.set i x) here := by
  refine ⟨h.blk.far (fun e => h.ne e) _, ?_, by rw [List.length_set]; exact h.len, h.byte.set i hx, h.small, h.low⟩
  have h1 := h.row.set_ i (.int .u8 x)
  have e : (bytesV bs).toArray.setIfInBounds i (.int .u8 x) = (bytesV (bs.set i x)).toArray := by
    simp [bytesV, List.setIfInBounds_toArray, List.map_set]
  rw [e] at h1
  exact h1
set_option maxRecDepth 100000 in
set_option maxHeartbeats 1000000 in
theorem MPut_ok (h : MemAt w m g n bs here) (p : Nat) (x : Int) (hp : p + 8 ≤ n) (ha : p % 8 = 0) : Calls Tryz.prog 69 #[.pointer (some ⟨m, 0, none⟩), .int .i64 p, .int .i64 x] w fun e w' => e = .returned (.int .i64 0) ∧ MemAt w' m g n (putF bs p x 8) here ∧ Touch [g] w w' := by
  have hC := cell_ok h p hp ha
  have H := Lib.hid h
  have hs := h.small
  clear h
  go_enter Tryz.func69, Tryz.ntmps69
  go_wp2_with fail
  refine hC.mono ?_
  rintro _ w1 ⟨rfl, t1⟩
  clear hC
  go_wp2_with fail
  go_loopw [18] (fun i wr => ∃ j : Nat, j ≤ 8 ∧ i = .int .i64 j ∧ MemAt wr m g n (putF bs p x j) here ∧ Touch [g] w wr) (fun i _ => 8 - (intOf i).toNat)
  case atStart => exact ⟨0, Nat.zero_le _, rfl, H.out.touch t1 (by simp) (by simp), t1.mono (by simp)⟩
  case round =>
    obtain ⟨j, hj, rfl, hM, t2⟩ := hrel
    clear t1
    by_cases hlt : j < 8
    · have hlt2 : (j : Int) < 8 := by omega
      have hc := hM.cell (i := p + j) (by omega)
      have hf := hM.row.frozen (p + j)
      have hM2 := hM.store (p + j) (u8_range (x / 2 ^ (8 * j)))
      have t3 := t2.setCell (p := ⟨g, p + j, none⟩) (.inl (by simp)) (.int .u8 (x / 2 ^ (8 * j) % 256))
      have ek : IntKind.i64.wrap ((j : Int) + 1) = (j + 1 : Nat) := by rw [IntKind.wrap_i64]; omega
      have e8 : IntKind.i64.wrap (8 * (j : Int)) = 8 * j := by rw [IntKind.wrap_i64]; omega
      have HM := Lib.hid (And.intro hM2 t3)
      clear hM t2 hM2 t3
      go_wp2_with fail
      go_roundw
      case rel => exact ⟨j + 1, by omega, vint (by omega), HM.out.1, HM.out.2⟩
      case measure => simp only [intOf]; omega
    · obtain rfl : j = 8 := by omega
      have HM := Lib.hid (And.intro hM t2)
      clear t2 hlt hM
      go_wp2_with fail
      go_ret
      exact ⟨rfl, HM.out.1, HM.out.2⟩
end
end Go.Proofs.YtkbchpaofmlhgaaGreatDoor
