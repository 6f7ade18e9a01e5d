/- The words that a tree's text is made of: numbers, names of locals, names of the table. -/
import Derived.Test.YtnhhflnanogpjaaGreatDoorWorld
import Derived.Test.YtnhhflnanogpjaaGreatDoorShelf6
import Derived.Lib.ItoaLen
namespace Go.Proofs.YtnhhflnanogpjaaGreatDoor
open Go.RowKit Go.Sort

def PowTab (w : World) : Prop := Lib.TabIs Tryz.prog w "internal/strconv.uint64pow10" .u64 Lib.pow10Tab
def MaxIs (w : World) : Prop := ∃ mx, w.cell? ⟨1, 0, none⟩ = some (.int .i64 mx)
theorem gPow : Tryz.prog.globalNamed "internal/strconv.uint64pow10" = some 0 := by kernel_rfl
theorem MaxIs.touch {w w' : World} (h : MaxIs w) (ht : Touch [] w w') : MaxIs w' := by
  obtain ⟨mx, hm⟩ := h
  exact ⟨mx, (ht.cell (World.block_lt_of_cell? w _ hm) (by simp)).trans hm⟩
/-- what the texts of numbers and names want of memory -/
structure TabsOk (w : World) : Prop where
  pow : PowTab w
  mx : MaxIs w

def textI (n : Int) : ByteArray := ⟨(Lib.itoa n).toArray⟩
theorem textI_size (n : Int) (h0 : -9223372036854775808 ≤ n) (h1 : n ≤ 9223372036854775807) : (textI n).size ≤ 21 := by
  have h := Lib.itoa_length_le n h0 h1
  show (Lib.itoa n).toArray.size ≤ 21
  simpa using h

theorem grow_touch (w : World) (k : Nat) (os : Array Obj) : Touch [] w (grow (w.drewN k) os) :=
  ⟨rfl, rfl, rfl, by simp [grow], fun i hi _ => by simp [grow, Array.getElem?_append, hi]⟩
theorem fmt_any (n : Int) (h0 : -9223372036854775808 ≤ n) (h1 : n ≤ 9223372036854775807) (w : World) (hT : TabsOk w) :
    Calls Tryz.prog 50 #[.int .i64 n, .int .i64 10] w fun e w' => e = .returned (.string (textI n)) ∧ Touch [] w w' :=
  (Tryz.strconv_FormatInt_10 n h0 h1 w hT.pow).mono fun e w' ⟨he, k, os, hw⟩ => ⟨he, by rw [hw]; exact grow_touch w k os⟩

def localT (n : Int) : ByteArray := ⟨#[108]⟩ ++ textI n
theorem local_any (n : Int) (h0 : -9223372036854775808 ≤ n) (h1 : n ≤ 9223372036854775807) (w : World) (hT : TabsOk w) :
    Calls Tryz.prog 24 #[.int .i64 n] w fun e w' => e = .returned (.string (localT n)) ∧ Touch [] w w' := by
  have hF := fmt_any n h0 h1 w hT
  have hsz := textI_size n h0 h1
  have hs : ¬ 9223372036854775807 < 1 + (textI n).size := by omega
  have hs2 : decide (9223372036854775807 < 1 + (textI n).size) = false := by simpa using hs
  clear hT hsz
  go_enter Tryz.func24, Tryz.ntmps24
  go_wp2_with fail
  refine hF.mono ?_
  rintro _ w1 ⟨rfl, t1⟩
  go_wp2_with fail
  go_ret
  exact ⟨rfl, t1⟩
theorem localT_size (n : Int) (h0 : -9223372036854775808 ≤ n) (h1 : n ≤ 9223372036854775807) : (localT n).size ≤ 22 := by
  have h := textI_size n h0 h1
  unfold localT
  rw [ByteArray.size_append]
  show 1 + _ ≤ 22
  omega

theorem splitB_size (sep : ByteArray) (save : Nat) : ∀ (k : Nat) (s x : ByteArray), x ∈ Lib.splitB sep save k s → x.size ≤ s.size
  | 0, s, x, h => by
    rw [Lib.splitB_zero, List.mem_singleton] at h
    rw [h]
    exact Nat.le_refl _
  | k + 1, s, x, h => by
    have hz : ∀ a b, (s.extract a b).size ≤ s.size := fun a b => by rw [ByteArray.size_extract]; omega
    unfold Lib.splitB at h
    split at h
    · rw [List.mem_singleton] at h
      rw [h]
      exact Nat.le_refl _
    · rcases List.mem_cons.1 h with rfl | h
      · exact hz _ _
      · exact Nat.le_trans (splitB_size sep save k _ x h) (hz _ _)
set_option maxRecDepth 100000 in
set_option maxHeartbeats 1000000 in
theorem names_any (w : World) (hT : TabsOk w) :
    Calls Tryz.prog 73 #[.int .i64 1] w fun e w' => ∃ (ss : List ByteArray) (c : Nat), e = .returned (.slice (some ⟨w.heap.size, 0, none⟩) ss.length c) ∧ (∀ x ∈ ss, x.size ≤ 600) ∧ (∀ i, i < ss.length → w'.cell? ⟨w.heap.size, i, none⟩ = some (.string (ss.getD i .empty))) ∧ Touch [] w w' := by
  obtain ⟨mx, hm⟩ := hT.mx
  go_enter Tryz.func73, Tryz.ntmps73
  go_wp2_with fail
  refine (Tryz.strings_Split _ _ mx _ (by decide) hm (by decide)).mono ?_
  rintro _ w1 ⟨rfl, rfl⟩
  go_wp2_with fail
  generalize hss : Lib.splitB _ _ _ _ = ss
  generalize hcn : Lib.countB _ _ = cn
  have hl : ss.length = cn + 1 := by rw [← hss, ← hcn]; exact Lib.splitB_all _ (by decide) 0 _ _ rfl
  have hb : ∀ x ∈ ss, x.size ≤ 600 := by
    intro x hx
    rw [← hss] at hx
    exact Nat.le_trans (splitB_size _ _ _ _ x hx) (by decide)
  clear hss hcn
  go_ret
  refine ⟨ss, cn + 1, by rw [hl]; rfl, hb, fun i hi => ?_, (Touch.refl [] w).alloc _⟩
  refine ((Blk.new w _ _).cell i).trans ?_
  simp [List.getD, List.getElem?_eq_getElem hi]

set_option maxRecDepth 100000 in
theorem Name_any (n : Int) (h0 : -9223372036854775808 ≤ n) (h1 : n ≤ 9223372036854775807) (w : World) (hT : TabsOk w) :
    Calls Tryz.prog 51 #[.int .i64 1, .int .i64 n] w fun e w' => ∃ s : ByteArray, e = .returned (.string s) ∧ s.size ≤ 600 ∧ Touch [] w w' := by
  have hN := names_any w hT
  clear hT
  by_cases hn : n < 1
  · have hn' : decide (n < 1) = true := by simpa using hn
    go_enter Tryz.func51, Tryz.ntmps51
    go_wp2_with fail
    refine hN.mono ?_
    rintro _ w1 ⟨ss, c, rfl, hb, hc, t1⟩
    clear hc
    go_wp2_with fail
    all_goals go_ret
    all_goals exact ⟨_, rfl, by decide, t1⟩
  · have hn' : decide (n < 1) = false := by simpa using hn
    have hw : IntKind.i64.wrap (n - 1) = n - 1 := by rw [IntKind.wrap_i64]; omega
    go_enter Tryz.func51, Tryz.ntmps51
    go_wp2_with fail
    refine hN.mono ?_
    rintro _ w1 ⟨ss, c, rfl, hb, hc, t1⟩
    by_cases hl : (ss.length : Int) < n
    · have hl' : decide ((ss.length : Int) < n) = true := by simpa using hl
      clear hc
      go_wp2_with fail
      all_goals go_ret
      all_goals exact ⟨_, rfl, by decide, t1⟩
    · have hl' : decide ((ss.length : Int) < n) = false := by simpa using hl
      obtain ⟨k, hk⟩ : ∃ k : Nat, n = k + 1 := ⟨(n - 1).toNat, by omega⟩
      subst hk
      have hkl : k < ss.length := by omega
      have hck := hc k hkl
      have hw2 : IntKind.i64.wrap ((k : Int) + 1 - 1) = (k : Int) := by rw [IntKind.wrap_i64]; omega
      have hkl2 : decide ((k : Int) < ss.length) = true := by simp; omega
      have HB := Lib.hid hb
      clear hc hb hw
      go_wp2_with fail
      all_goals go_ret
      all_goals exact ⟨_, rfl, HB.out _ (List.getElem_mem _), t1⟩
end Go.Proofs.YtnhhflnanogpjaaGreatDoor
