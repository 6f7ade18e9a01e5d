/- PrimTells: what its walk needs. -/
import Derived.Test.YtkbchpaofmlhgaaGreatDoorPLive
namespace Go.Proofs.YtkbchpaofmlhgaaGreatDoor
open Go.RowKit

theorem doP_ok {n : Nat} {act : List Int → PS → (List Int × Int) × PS} {S T : PS} {rest l o : List Int} (hst : S.st = rest ++ l) (hl : l.length = n) (ha : act l { S with st := rest } = ((o, 0), T)) (ht : T.st = rest) (hlen : rest.length + o.length ≤ 128) :
    doP n act S = (0, { T with st := rest ++ o }) := by
  unfold doP
  have h1 : ¬ S.st.length < n := by rw [hst, List.length_append]; omega
  have h2 : S.st.length - n = rest.length := by rw [hst, List.length_append]; omega
  rw [if_neg h1, h2]
  have h3 : S.st.drop rest.length = l := by rw [hst]; simp
  have h4 : S.st.take rest.length = rest := by rw [hst]; simp
  rw [h3, h4, ha]
  simp only [if_true, ht]
  rw [if_pos hlen]
theorem live_doP {w0 w : World} {s : Nat} {S T : PS} {op : Int} {n : Nat} {pre : List Int → PS → Prop} {act : List Int → PS → (List Int × Int) × PS} (h : Live w0 w s S) (hsem : OpSem op n pre act) (h1 : 43 ≤ op) (h2 : op ≤ 107) (h3 : op < 61 ∨ 70 < op) (hn : n ≤ 4) (hok : S.ok)
    (rest l o : List Int) (hst : S.st = rest ++ l) (hl : l.length = n) (hlen : S.st.length ≤ 128) (hpre : pre l { S with st := rest }) (ha : act l { S with st := rest } = ((o, 0), T)) (ht : T.st = rest) (hlen2 : rest.length + o.length ≤ 128) :
    Calls Tryz.prog 14 #[.pointer (some ⟨s, 0, none⟩), .int .i64 op] w fun e w' => e = .returned (.int .i64 0) ∧ Live w0 w' s { T with st := rest ++ o } := by
  have hD := live_do h hsem h1 h2 h3 hn hok hlen (fun _ => by
    have h2 : S.st.length - n = rest.length := by rw [hst, List.length_append]; omega
    rw [h2]
    have h3 : S.st.drop rest.length = l := by rw [hst]; simp
    have h4 : S.st.take rest.length = rest := by rw [hst]; simp
    rw [h3, h4]
    exact hpre)
  rw [doP_ok hst hl ha ht hlen2] at hD
  exact hD
theorem strL_append (a b : ByteArray) : strL (a ++ b) = strL a ++ strL b := by
  unfold strL
  rw [ByteArray.data_append, Array.toList_append, List.map_append]
theorem told_more {out : List Int} {want t : ByteArray} (h : out = (strL want).take 4000) : sayL out t = (strL (want ++ t)).take 4000 := by
  unfold sayL
  rw [strL_append, List.take_append, h, List.length_take]
  congr 2
  omega
/-- so many blanks -/
def blanks (k : Nat) : ByteArray := ⟨(List.replicate k (32 : UInt8)).toArray⟩
theorem blanks_size (k : Nat) : (blanks k).size = k := by simp [blanks, ByteArray.size]
theorem filL_rep (k : Nat) : ∀ j, j ≤ k → filL (List.replicate k 0) 0 32 j = List.replicate j 32 ++ List.replicate (k - j) 0
  | 0, _ => by simp [filL]
  | j + 1, h => by
    rw [filL, filL_rep k j (by omega)]
    have e : k - j = (k - (j + 1)) + 1 := by omega
    rw [e, List.replicate_succ (n := k - (j + 1)), Nat.zero_add]
    rw [List.set_append_right _ _ (by simp)]
    simp only [List.length_replicate, Nat.sub_self, List.set_cons_zero]
    rw [List.replicate_succ' (n := j)]
    simp
theorem nums_blanks (k : Nat) : strOfNums (List.replicate k 32) = blanks k := by
  unfold strOfNums blanks
  rw [List.map_replicate]
  rfl
theorem blk_row {w : World} {g k : Nat} {l : List Int} (h : Blk w g 5 (bytesV l).toArray) (hl : l.length = k) (hk : k ≤ 65536) : w.ownsRow 0 5 1 (.slice (some ⟨g, 0, none⟩) k k) l.length (bytesV l) := by
  subst hl
  refine ⟨by simp [bytesV], .inr ⟨g, l.length, _, rfl, Nat.zero_le _, h, Nat.le_refl _, by unfold maxLen; omega, by simp [bytesV], ?_⟩⟩
  rw [Nat.mul_one]
  exact List.take_of_length_le (by simp [bytesV])
set_option maxHeartbeats 1000000 in
theorem fill_any (n : Nat) (w : World) : Calls Tryz.prog 37 #[.int .i64 n] w fun e w' => ∃ v, e = .returned v ∧ BRow w' v (List.replicate (min n 4000) 32) ∧ Touch [] w w' := by
  have hmin : min (n : Int) 4000 = (min n 4000 : Nat) := by omega
  have hk4 : min n 4000 ≤ 4000 := Nat.min_le_right _ _
  obtain ⟨k, hk⟩ : ∃ k, min n 4000 = k := ⟨_, rfl⟩
  rw [hk] at hmin hk4 ⊢
  clear hk
  have hmk := fun W => make_bytes k (by omega) W
  go_enter Tryz.func37, Tryz.ntmps37
  go_wp2_with fail
  have b0 := Blk.new w 5 (bytesV (List.replicate k 0)).toArray
  have t0 := (Touch.refl [] w).alloc (.cells (bytesV (List.replicate k 0)).toArray 5)
  have H0 : Hid (Blk (w.alloc (.cells (bytesV (List.replicate k 0)).toArray 5)) w.heap.size 5 (bytesV (filL (List.replicate k 0) 0 32 0)).toArray ∧ Touch [] w (w.alloc (.cells (bytesV (List.replicate k 0)).toArray 5))) := ⟨b0, t0⟩
  clear b0 t0
  go_loopw [10] (fun i wr => ∃ j : Nat, j ≤ k ∧ i = .int .i64 j ∧ Blk wr w.heap.size 5 (bytesV (filL (List.replicate k 0) 0 32 j)).toArray ∧ Touch [] w wr) (fun i _ => k - (intOf i).toNat)
  case atStart => exact ⟨0, Nat.zero_le _, rfl, H0.out.1, H0.out.2⟩
  case round =>
    obtain ⟨j, hj, rfl, hb, t2⟩ := hrel
    by_cases hlt : j < k
    · have hlt2 : (j : Int) < k := by omega
      have ej : IntKind.i64.wrap ((j : Int) + 1) = (j + 1 : Nat) := by rw [IntKind.wrap_i64]; omega
      have hlen : (filL (List.replicate k 0) 0 32 j).length = k := by rw [filL_len]; simp
      have hcell : wr.cell? ⟨w.heap.size, j, none⟩ = some (.int .u8 ((filL (List.replicate k 0) 0 32 j).getD j 0)) := by
        rw [hb.cell j]
        simp [bytesV, List.getD, List.getElem?_eq_getElem (show j < (filL (List.replicate k 0) 0 32 j).length by omega)]
      have hfz := hb.frozen j
      have hb2 := hb.set_ j (.int .u8 32)
      have e : (bytesV (filL (List.replicate k 0) 0 32 j)).toArray.setIfInBounds j (.int .u8 32) = (bytesV (filL (List.replicate k 0) 0 32 (j + 1))).toArray := by
        rw [filL, Nat.zero_add]
        simp [bytesV, List.setIfInBounds_toArray, List.map_set]
      rw [e] at hb2
      have HF := Lib.hid (And.intro hb2 (t2.setCell (p := ⟨w.heap.size, j, none⟩) (.inr (Nat.le_refl _)) (.int .u8 32)))
      clear hb t2 hb2 e hlen
      go_wp2_with fail
      go_roundw
      case rel => exact ⟨j + 1, by omega, vint (by omega), HF.out.1, HF.out.2⟩
      case measure => simp only [intOf]; omega
    · obtain rfl : j = k := by omega
      have HF := Lib.hid (And.intro hb t2)
      clear hb t2 hlt
      go_wp2_with fail
      go_ret
      refine ⟨_, rfl, ?_, HF.out.2⟩
      have e : filL (List.replicate j 0) 0 32 j = List.replicate j 32 := by rw [filL_rep j j (Nat.le_refl _)]; simp
      have h := HF.out.1
      rw [e] at h
      exact ⟨blk_row h (by simp) (by omega), fun x hx => by rw [List.eq_of_mem_replicate hx]; decide⟩
theorem cut_noted (bs l : List Int) (p : Nat) (h : p ≤ bs.length) : cutL (wrtL bs p l) p l.length = l := by
  unfold cutL wrtL
  rw [List.append_assoc]
  have h1 : (bs.take p).length = p := by simp; omega
  rw [List.drop_append, List.drop_eq_nil_of_le (by omega), h1, Nat.sub_self, List.drop_zero, List.nil_append]
  simp
theorem live_spaces {w0 w : World} {s : Nat} {S : PS} (h : Live w0 w s S) (hok : S.ok) {u : Nat} (hst : S.st = [(u : Int)]) :
    Calls Tryz.prog 14 #[.pointer (some ⟨s, 0, none⟩), .int .i64 97] w fun e w' => e = .returned (.int .i64 0) ∧ Live w0 w' s { S with st := [], out := sayL S.out (blanks (min u 4000)) } := by
  have e : (min (max (u : Int) 0) 4000).toNat = min u 4000 := by omega
  exact live_doP (T := { S with st := [], out := sayL S.out (blanks (min u 4000)) }) h spaces_sem (by decide) (by decide) (by decide) (by decide) hok [] [(u : Int)] [] hst rfl (by rw [hst]; exact (by decide : 1 ≤ 128)) trivial (by
    rw [List.getD_cons_zero, e]
    rfl) rfl (by decide)
theorem live_type {w0 w : World} {s : Nat} {S : PS} (h : Live w0 w s S) (hok : S.ok) {p k : Nat} (hst : S.st = [(p : Int), (k : Int)]) (hpk : p + k ≤ S.n) :
    Calls Tryz.prog 14 #[.pointer (some ⟨s, 0, none⟩), .int .i64 98] w fun e w' => e = .returned (.int .i64 0) ∧ Live w0 w' s { S with st := [], out := sayL S.out (S.text p k) } :=
  live_doP (T := { S with st := [], out := sayL S.out (S.text p k) }) h type_sem (by decide) (by decide) (by decide) (by decide) hok [] [(p : Int), (k : Int)] [] hst rfl (by rw [hst]; exact (by decide : 2 ≤ 128)) ⟨p, k, rfl, hpk⟩ rfl rfl (by decide)
end Go.Proofs.YtkbchpaofmlhgaaGreatDoor
