/- The memory: texts, bytes. -/
import Derived.Test.YtkbchpaofmlhgaaGreatDoorSay2
import Derived.Lib.BufferWrite
import Derived.Lib.SlBuf
namespace Go.Proofs.YtkbchpaofmlhgaaGreatDoor
open Go.RowKit

section
variable {w w' : World} {m g n here : Nat} {bs : List Int}
def cutL (bs : List Int) (p k : Nat) : List Int := (bs.drop p).take k
theorem cutL_len {bs : List Int} {p k : Nat} (h : p + k ≤ bs.length) : (cutL bs p k).length = k := by unfold cutL; rw [List.length_take, List.length_drop]; omega
theorem cutL_bytes (h : Bytes bs) (p k : Nat) : Bytes (cutL bs p k) := fun x hx => h x (List.mem_of_mem_drop (List.mem_of_mem_take hx))
theorem cutL_get {bs : List Int} {p k i : Nat} (hi : i < k) : (cutL bs p k).getD i 0 = bs.getD (p + i) 0 := by
  unfold cutL
  simp [List.getD, hi, List.getElem?_drop]
theorem MText_ok (h : MemAt w m g n bs here) (p k : Nat) (hk : p + k ≤ n) : Calls Tryz.prog 32 #[.pointer (some ⟨m, 0, none⟩), .int .i64 p, .int .i64 k] w fun e w' => e = .returned (.tuple #[.string (strOfNums (cutL bs p k)), .int .i64 0]) ∧ Touch [] w w' := by
  have hP := piece_ok h p k hk
  have hconv : ∀ a W, (0 < k → a = (⟨g, p, none⟩ : Addr)) → Touch [] w W → (convert 66 9 (.slice (some a) k k)).run Tryz.prog W = .ok (.string (strOfNums (cutL bs p k))) W := by
    intro a W ha t
    rcases Nat.eq_zero_or_pos k with rfl | h0
    · rw [run_convert_bytes_zero W _ _ Tryz.underlying66 Tryz.underlying5 (some a) 0 _ Tryz.underlying9]
      rfl
    · rw [ha h0]
      refine run_convert_bytes_arg (P := Tryz.prog) W _ _ Tryz.underlying66 Tryz.underlying5 g p k k _ (cutL_len (by rw [h.len]; exact hk)) (fun i hi => ?_) _ Tryz.underlying9
      rw [cutL_get hi]
      exact (h.touch t (by simp) (by simp)).cell (by omega)
  clear h
  obtain ⟨q, hq⟩ : ∃ q, strOfNums (cutL bs p k) = q := ⟨_, rfl⟩
  rw [hq] at hconv ⊢
  clear hq
  go_enter Tryz.func32, Tryz.ntmps32
  go_wp2_with fail
  refine hP.mono ?_
  rintro _ w1 ⟨a, rfl, ha, t1⟩
  have hc := hconv a w1 ha t1
  clear hconv hP ha
  go_wp2_with fail
  go_ret2
  exact ⟨rfl, t1⟩
theorem MText_bad (h : MemAt w m g n bs here) (p k : Int) (hk : p < 0 ∨ n < p ∨ k < 0 ∨ n - p < k) : Calls Tryz.prog 32 #[.pointer (some ⟨m, 0, none⟩), .int .i64 p, .int .i64 k] w fun e w' => e = .returned (.tuple #[.string .empty, .int .i64 (-9)]) ∧ Touch [] w w' := by
  have hP := piece_bad h p k hk
  have hc := fun W => run_convert_bytes_nil (P := Tryz.prog) W _ _ Tryz.underlying66 Tryz.underlying5 0 0 _ Tryz.underlying9
  clear h hk
  go_enter Tryz.func32, Tryz.ntmps32
  go_wp2_with fail
  refine hP.mono ?_
  rintro _ w1 ⟨rfl, t1⟩
  clear hP
  go_wp2_with fail
  go_ret2
  exact ⟨rfl, t1⟩
/-- bytes that are written -/
def wrtL (bs : List Int) (p : Nat) (l : List Int) : List Int := bs.take p ++ l ++ bs.drop (p + l.length)
theorem wrtL_len {bs l : List Int} {p : Nat} (h : p + l.length ≤ bs.length) : (wrtL bs p l).length = bs.length := by
  unfold wrtL
  simp only [List.length_append, List.length_take, List.length_drop]
  omega
theorem wrtL_bytes {l : List Int} (h : Bytes bs) (k : Bytes l) (p : Nat) : Bytes (wrtL bs p l) := by
  unfold wrtL
  exact Bytes.append (Bytes.append (fun x hx => h x (List.mem_of_mem_take hx)) k) (fun x hx => h x (List.mem_of_mem_drop hx))
theorem copy_mem (h : MemAt w m g n bs here) (p : Nat) (s : ByteArray) (hk : p + s.size ≤ n) (a : Addr) (ha : 0 < s.size → a = ⟨g, p, none⟩) :
    ∃ v w', (Builtin.copy_ #[66, 9] 3 #[.slice (some a) s.size s.size, .string s]).run Tryz.prog w = .ok v w' ∧ MemAt w' m g n (wrtL bs p (strL s)) here ∧ Touch [g] w w' := by
  obtain ⟨i0, hi, _, hz1, _⟩ := info_byte'
  rcases Nat.eq_zero_or_pos s.size with h0 | h0
  · refine ⟨_, _, Lib.run_copy_empty_string w _ _ _ 5 (some a) _ _ s Tryz.underlying66 (by rw [hi]; rfl) h0, ?_, Touch.refl _ _⟩
    have : strL s = [] := List.eq_nil_of_length_eq_zero (by rw [strL_len]; exact h0)
    rw [this]
    have e : wrtL bs p [] = bs := by simp [wrtL]
    rw [e]
    exact h
  · rw [ha h0]
    have hsz : (bytesV bs).toArray.size = n := by simp [bytesV, h.len]
    refine ⟨_, _, Lib.run_copy_row_string w _ _ _ 5 g p _ _ s _ 5 Tryz.underlying66 (by rw [hi]; simp [hz1]) h.row (Nat.le_refl _) (by rw [hsz]; exact hk), ⟨?_, ?_, ?_, wrtL_bytes h.byte (strL_bytes s) p, h.small, h.low⟩, ⟨rfl, rfl, rfl, by simp, fun k hk hn => setRow_other w g k _ (by simpa using hn)⟩⟩
    · show _ = _
      rw [setRow_other w g m _ h.ne]
      exact h.blk
    · have h1 := setRow_heap w g _ (((bytesV bs).toArray.toList.take p ++ Lib.byteCells s.data.toList ++ (bytesV bs).toArray.toList.drop (p + s.size)).toArray) _ _ h.row
      have e : ((bytesV bs).toArray.toList.take p ++ Lib.byteCells s.data.toList ++ (bytesV bs).toArray.toList.drop (p + s.size)).toArray = (bytesV (wrtL bs p (strL s))).toArray := by
        have e2 : bytesV (wrtL bs p (strL s)) = (bytesV bs).take p ++ Lib.byteCells s.data.toList ++ (bytesV bs).drop (p + s.size) := by
          have e3 : bytesV (strL s) = Lib.byteCells s.data.toList := strL_cells s
          unfold wrtL
          rw [bytesV_append, bytesV_append, strL_len, e3]
          unfold bytesV
          rw [List.map_take, List.map_drop]
        rw [e2]
      unfold Blk
      rw [← e]
      exact h1
    · rw [wrtL_len (by rw [strL_len, h.len]; exact hk), h.len]
theorem MWrite_ok (h : MemAt w m g n bs here) (p : Nat) (s : ByteArray) (hk : p + s.size ≤ n) : Calls Tryz.prog 67 #[.pointer (some ⟨m, 0, none⟩), .int .i64 p, .string s] w fun e w' => e = .returned (.int .i64 0) ∧ MemAt w' m g n (wrtL bs p (strL s)) here ∧ Touch [g] w w' := by
  have hP := piece_ok h p s.size hk
  have H := Lib.hid h
  clear h
  go_enter Tryz.func67, Tryz.ntmps67
  go_wp2_with fail
  refine hP.mono ?_
  rintro _ w1 ⟨a, rfl, ha, t1⟩
  obtain ⟨v, w2, hr, hm, t2⟩ := copy_mem (H.out.touch t1 (by simp) (by simp)) p s hk a ha
  have HF := Lib.hid (And.intro hm ((t1.mono (G := [g]) (by simp)).trans t2 (fun x hx => .inl hx)))
  clear hP ha t1 hm t2
  go_wp2_with (at_builtin; refine Lib.wpList_copy_run _ rfl _ _ 66 9 rfl _ _ rfl rfl hr ?_)
  go_ret
  exact ⟨rfl, HF.out⟩
/-- the same byte often -/
def filL (bs : List Int) (p : Nat) (c : Int) : Nat → List Int
  | 0 => bs
  | i + 1 => (filL bs p c i).set (p + i) c
theorem filL_len (bs : List Int) (p : Nat) (c : Int) : ∀ i, (filL bs p c i).length = bs.length
  | 0 => rfl
  | i + 1 => by rw [filL, List.length_set, filL_len bs p c i]
set_option maxHeartbeats 1000000 in
theorem MFill_ok (h : MemAt w m g n bs here) (p k : Nat) (c : Int) (hc : 0 ≤ c ∧ c ≤ 255) (hk : p + k ≤ n) : Calls Tryz.prog 150 #[.pointer (some ⟨m, 0, none⟩), .int .i64 p, .int .i64 k, .int .u8 c] w fun e w' => e = .returned (.int .i64 0) ∧ MemAt w' m g n (filL bs p c k) here ∧ Touch [g] w w' := by
  have hP := piece_ok h p k hk
  have hs := h.small
  have H := Lib.hid h
  have HC := Lib.hid hc
  clear h hc
  go_enter Tryz.func150, Tryz.ntmps150
  go_wp2_with fail
  refine hP.mono ?_
  rintro _ w1 ⟨a, rfl, ha, t1⟩
  clear hP
  go_wp2_with fail
  have hm1 := H.out.touch t1 (by simp) (by simp)
  have t1' := t1.mono (G := [g]) (by simp)
  have HA := Lib.hid ha
  clear ha t1
  go_loopw [21] (fun i wr => ∃ j : Nat, j ≤ k ∧ i = .int .i64 j ∧ MemAt wr m g n (filL bs p c j) here ∧ Touch [g] w wr) (fun i _ => k - (intOf i).toNat)
  case atStart => exact ⟨0, Nat.zero_le _, rfl, hm1, t1'⟩
  case round =>
    obtain ⟨j, hj, rfl, hm, t2⟩ := hrel
    clear hm1 t1'
    by_cases hlt : j < k
    · have hlt2 : (j : Int) < k := by omega
      obtain rfl := HA.out (by omega)
      have ej : IntKind.i64.wrap ((j : Int) + 1) = (j + 1 : Nat) := by rw [IntKind.wrap_i64]; omega
      have hcell := hm.cell (i := p + j) (by omega)
      have hfz := hm.row.frozen (p + j)
      have HF := Lib.hid (And.intro (hm.store (p + j) HC.out) (t2.setCell (p := ⟨g, p + j, none⟩) (by simp) (.int .u8 c)))
      clear hm t2
      go_wp2_with fail
      go_roundw
      case rel => exact ⟨j + 1, by omega, vint (by omega), HF.out.1, HF.out.2⟩
      case measure => simp only [intOf]; omega
    · obtain rfl : j = k := by omega
      have HF := Lib.hid (And.intro hm t2)
      clear hm t2 hlt
      go_wp2_with fail
      go_ret
      exact ⟨rfl, HF.out⟩
theorem MGetByte_ok (h : MemAt w m g n bs here) (p : Nat) (hp : p < n) : Calls Tryz.prog 141 #[.pointer (some ⟨m, 0, none⟩), .int .i64 p] w fun e w' => e = .returned (.tuple #[.int .u8 (bs.getD p 0), .int .i64 0]) ∧ Touch [] w w' := by
  have hP := piece_ok h p 1 (by omega)
  have H := Lib.hid h
  clear h
  go_enter Tryz.func141, Tryz.ntmps141
  go_wp2_with fail
  refine hP.mono ?_
  rintro _ w1 ⟨a, rfl, ha, t1⟩
  obtain rfl := ha (by decide)
  have hcell := (H.out.touch t1 (by simp) (by simp)).cell hp
  clear hP ha
  go_wp2_with fail
  go_ret2
  exact ⟨rfl, t1⟩
theorem MPutByte_ok (h : MemAt w m g n bs here) (p : Nat) (c : Int) (hc : 0 ≤ c ∧ c ≤ 255) (hp : p < n) : Calls Tryz.prog 145 #[.pointer (some ⟨m, 0, none⟩), .int .i64 p, .int .u8 c] w fun e w' => e = .returned (.int .i64 0) ∧ MemAt w' m g n (bs.set p c) here ∧ Touch [g] w w' := by
  have hF := MFill_ok h p 1 c hc (by omega)
  clear h
  go_enter Tryz.func145, Tryz.ntmps145
  go_wp2_with fail
  refine hF.mono ?_
  rintro _ w1 ⟨rfl, hm, t1⟩
  clear hF
  go_wp2_with fail
  go_ret
  exact ⟨rfl, hm, t1⟩
end
end Go.Proofs.YtkbchpaofmlhgaaGreatDoor
