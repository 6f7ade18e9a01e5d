/- The contracts of the reference's held and Word: the same plain functions as the program's. -/
import Derived.Test.YtnkepejdboppcaaScan
namespace Go.Proofs.Ytnkepejdboppcaa
open Go.RowKit

def HeldIs (s : ByteArray) (i : Int) (h : Nat) : Prop := heldAt s i = h
theorem held_is (s : ByteArray) (i : Int) (w : World) (hs : s.size ≤ 140737488355328) :
    Calls Try.prog 23 #[.string s, .int .i64 i] w fun e w' => ∃ h, HeldIs s i h ∧ h ≤ s.size ∧ e = .returned (.int .i64 (h : Nat)) ∧ w = w' := by
  go_enter Try.func23, Try.ntmps23
  go_wp2
  all_goals go_ret
  all_goals refine ⟨_, (rfl : HeldIs s i _), heldAt_le s i, ret1 (vint ?_), rfl⟩
  all_goals (unfold heldAt; split at * <;> omega)

theorem findN_drop (is : Bool) (l : List UInt8) (a k : Nat) (h : ∀ j, a ≤ j → j < k → ∀ c, l[j]? = some c → ((decide (c ≤ 32)) == is) = false) (hak : a ≤ k)
    (hk : ∃ c, l[k]? = some c ∧ ((decide (c ≤ 32)) == is) = true) : a + findN is (l.drop a) = k := by
  have e : findN is (l.drop a) = k - a := by
    refine findN_at is _ _ ?_ ?_
    · obtain ⟨c, hc, ht⟩ := hk
      exact ⟨c, by rw [List.getElem?_drop, show a + (k - a) = k by omega]; exact hc, ht⟩
    · intro j hj c hc
      rw [List.getElem?_drop] at hc
      exact h (a + j) (by omega) (by omega) c hc
  omega
theorem findN_drop_none (is : Bool) (l : List UInt8) (a : Nat) (h : ∀ j, a ≤ j → j < l.length → ∀ c, l[j]? = some c → ((decide (c ≤ 32)) == is) = false) (ha : a ≤ l.length) : a + findN is (l.drop a) = l.length := by
  have e : findN is (l.drop a) = (l.drop a).length := by
    refine findN_none is _ fun j c hc => ?_
    rw [List.getElem?_drop] at hc
    exact h (a + j) (by omega) ((List.getElem?_eq_some_iff.1 hc).1) c hc
  rw [e, List.length_drop]; omega

theorem HeldIs.out {s : ByteArray} {i : Int} {h : Nat} (H : HeldIs s i h) : heldAt s i = h := H
theorem le32 (c : UInt8) : decide (c ≤ 32) = decide ((c.toNat : Int) ≤ 32) := by
  rw [decide_eq_decide, UInt8.le_iff_toNat_le]; exact ⟨fun h => Int.ofNat_le.2 h, fun h => Int.ofNat_le.1 h⟩
/-- the bytes from a place to another are blanks (or are none) -/
def AllAre (is : Bool) (s : ByteArray) (a k : Nat) : Prop := ∀ j, a ≤ j → j < k → ∀ c, s.data.toList[j]? = some c → decide (c ≤ 32) = is
theorem AllAre.snoc {is : Bool} {s : ByteArray} {a k : Nat} (h : AllAre is s a k) {c : UInt8} (hc : s.data.toList[k]? = some c) (ht : decide (c ≤ 32) = is) : AllAre is s a (k + 1) := by
  intro j h1 h2 d hd
  rcases Nat.lt_or_ge j k with h3 | h3
  · exact h j h1 h3 d hd
  · obtain rfl : j = k := by omega
    rw [hc] at hd
    exact Option.some.inj hd ▸ ht
theorem AllAre.flip {is : Bool} {s : ByteArray} {a k : Nat} (h : AllAre is s a k) : ∀ j, a ≤ j → j < k → ∀ c, s.data.toList[j]? = some c → ((decide (c ≤ 32)) == !is) = false := by
  intro j h1 h2 c hc
  rw [h j h1 h2 c hc]; cases is <;> rfl
structure Word1 (s : ByteArray) (i : Int) (k : Nat) : Prop where
  le : k ≤ s.size
  at_ : k = wordA s i

theorem word1_or {s : ByteArray} {i : Int} {h k : Nat} (HH : HeldIs s i h) (hk1 : h ≤ k) (hk2 : k ≤ s.size) (HB : AllAre true s h k) :
    (∃ hlt : k < s.size, decide ((s[k].toNat : Int) ≤ 32) = true ∧ AllAre true s h (k + 1)) ∨ (Word1 s i k ∧ ((∃ hlt : k < s.size, decide ((s[k].toNat : Int) ≤ 32) = false) ∨ ¬ k < s.size)) := by
  have hh := HH.out
  by_cases hlt : k < s.size
  · have hg := str_get s k hlt
    rcases Bool.eq_false_or_eq_true (decide ((s[k].toNat : Int) ≤ 32)) with ht | ht
    · exact .inl ⟨hlt, ht, HB.snoc hg (by rw [le32, ht])⟩
    · refine .inr ⟨⟨hk2, ?_⟩, .inl ⟨hlt, ht⟩⟩
      unfold wordA
      rw [hh]
      exact (findN_drop false _ h k HB.flip hk1 ⟨_, hg, by rw [le32, ht]; rfl⟩).symm
  · have hz := str_size s
    refine .inr ⟨⟨hk2, ?_⟩, .inr hlt⟩
    unfold wordA
    rw [hh, findN_drop_none false _ h (fun j h1 h2 => HB.flip j h1 (by omega)) (by omega), hz]
    omega
def Word2 (s : ByteArray) (i : Int) (x : ByteArray) (n : Nat) : Prop := x = wordS s i ∧ wordN s i = n
theorem Word2.iff {s : ByteArray} {i : Int} {x : ByteArray} {n : Nat} (h : Word2 s i x n) : x = wordS s i ∧ wordN s i = n := h
theorem word2_or {s : ByteArray} {i : Int} {k n : Nat} (HA : Word1 s i k) (hk1 : k ≤ n) (hk2 : n ≤ s.size) (HB : AllAre false s k n) :
    (∃ hlt : n < s.size, decide ((s[n].toNat : Int) ≤ 32) = false ∧ AllAre false s k (n + 1)) ∨ (∃ hlt : n < s.size, decide ((s[n].toNat : Int) ≤ 32) = true ∧ Word2 s i (s.extract k n) (n + 1)) ∨
      (¬ n < s.size ∧ Word2 s i (s.extract k s.size) s.size) := by
  have hA := HA.at_
  by_cases hlt : n < s.size
  · have hg := str_get s n hlt
    rcases Bool.eq_false_or_eq_true (decide ((s[n].toNat : Int) ≤ 32)) with ht | ht
    · refine .inr (.inl ⟨hlt, ht, ?_⟩)
      have hL : k + wordL s i = n := by
        unfold wordL
        rw [← hA]
        exact findN_drop true _ k n HB.flip hk1 ⟨_, hg, by rw [le32, ht]; rfl⟩
      exact ⟨by unfold wordS; rw [← hA, hL], by unfold wordN; rw [← hA, hL]; omega⟩
    · exact .inl ⟨hlt, ht, HB.snoc hg (by rw [le32, ht])⟩
  · have hz := str_size s
    have hn : n = s.size := by omega
    have hL : k + wordL s i = s.size := by
      unfold wordL
      rw [← hA, findN_drop_none true _ k (fun j h1 h2 => HB.flip j h1 (by omega)) (by omega), hz]
    exact .inr (.inr ⟨hlt, by unfold wordS; rw [← hA, hL], by unfold wordN; rw [← hA, hL]; omega⟩)

set_option maxHeartbeats 400000 in
theorem RefWord_any (s : ByteArray) (i : Int) (w : World) (hs : s.size ≤ 140737488355328) :
    Calls Try.prog 19 #[.string s, .int .i64 i] w fun e w' => e = .returned (.tuple #[.string (wordS s i), .int .i64 (wordN s i)]) ∧ w = w' := by
  go_enter Try.func19, Try.ntmps19
  go_wp2_with (go_at_call 23; refine (held_is s i _ hs).mono ?_; rintro e w' ⟨h, HH, hh, rfl, rfl⟩)
  go_loop [6] (fun i => ∃ k : Nat, h ≤ k ∧ k ≤ s.size ∧ i = .int .i64 k ∧ AllAre true s h k) (fun i => s.size - (intOf i).toNat)
  case atStart => exact ⟨h, Nat.le_refl _, hh, rfl, fun j h1 h2 => by omega⟩
  case round =>
    obtain ⟨k, hk1, hk2, rfl, HB⟩ := hrel
    rcases word1_or HH hk1 hk2 HB with ⟨hlt, ht, HN⟩ | ⟨HA, hst⟩
    · go_wp2
      exact ⟨⟨k + 1, by omega, by omega, by go_num, HN⟩, by simp [intOf]; omega⟩
    · clear HB
      rcases hst with ⟨hlt, ht⟩ | hlt
      all_goals
        go_wp2
        go_loop [7] (fun i => ∃ n : Nat, k ≤ n ∧ n ≤ s.size ∧ i = .int .i64 n ∧ AllAre false s k n) (fun i => s.size - (intOf i).toNat)
        case atStart => exact ⟨k, Nat.le_refl _, hk2, rfl, fun j h1 h2 => by omega⟩
        case round =>
          obtain ⟨n, hn1, hn2, rfl, HB⟩ := hrel
          rcases word2_or HA hn1 hn2 HB with ⟨hlt2, ht2, HN⟩ | ⟨hlt2, ht2, HE⟩ | ⟨hlt2, HE⟩
          · go_wp2
            exact ⟨⟨n + 1, by omega, by omega, by go_num, HN⟩, by simp [intOf]; omega⟩
          · go_wp2
            go_ret2
            exact ⟨ret2 (vstr HE.1) (vint (by rw [HE.2]; omega)), rfl⟩
          · go_wp2
            go_ret2
            exact ⟨ret2 (vstr HE.1) (vint (by rw [HE.2])), rfl⟩

end Go.Proofs.Ytnkepejdboppcaa
