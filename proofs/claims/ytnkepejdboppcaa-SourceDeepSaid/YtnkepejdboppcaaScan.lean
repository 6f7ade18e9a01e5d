/- The contracts of scan.rest, scan.find, scan.Word and of the reference's Word, as plain functions of bytes. No condition beyond a text's length. -/
import Derived.Test.YtnkepejdboppcaaBase
namespace Go.Proofs.Ytnkepejdboppcaa
open Go.RowKit

/-- a place held within a text -/
def heldAt (s : ByteArray) (i : Int) : Nat := min i.toNat s.size
def restS (s : ByteArray) (i : Int) : ByteArray := s.extract (heldAt s i) s.size

theorem heldAt_le (s : ByteArray) (i : Int) : heldAt s i ≤ s.size := by unfold heldAt; omega
theorem ext_rest (s : ByteArray) (k : Nat) : (s.extract k s.size).data.toList = s.data.toList.drop k := by rw [ext_list, ← str_size, List.take_length]
theorem restS_list (s : ByteArray) (i : Int) : (restS s i).data.toList = s.data.toList.drop (heldAt s i) := by
  unfold restS; rw [ext_list, ← str_size, List.take_length]
theorem restS_of (s : ByteArray) (i : Int) (a : Nat) (h : a = heldAt s i) : s.extract a s.size = restS s i := by rw [h]; rfl

set_option maxHeartbeats 400000 in
theorem rest_any (s : ByteArray) (i : Int) (w : World) (hs : s.size ≤ maxLen) :
    Calls Try.prog 24 #[.string s, .int .i64 i] w fun e w' => e = .returned (.tuple #[.string (restS s i), .int .i64 (heldAt s i)]) ∧ w = w' := by
  unfold maxLen at hs
  go_enter Try.func24, Try.ntmps24
  go_wp2
  all_goals go_ret2
  all_goals refine ⟨?_, rfl⟩
  all_goals refine ret2 (vstr ?_) (vint ?_)
  all_goals first
    | (unfold heldAt; omega)
    | (refine str_ext ?_; rw [restS_list])
  · have e : heldAt s i = s.size := by unfold heldAt; split at * <;> omega
    rw [e, ← str_size, List.drop_length]; rfl
  · have e : heldAt s i = 0 := by unfold heldAt; omega
    rw [e, List.drop_zero]
  · have e : heldAt s i = i.toNat := by unfold heldAt; split at * <;> omega
    rw [e, ext_rest]


/-- find's answer: the first byte that is a blank (or is none); the length, if there is none -/
def findN (is : Bool) (l : List UInt8) : Nat := l.findIdx fun c => (decide (c ≤ 32)) == is
theorem findN_le (is : Bool) (l : List UInt8) : findN is l ≤ l.length := List.findIdx_le_length

/-- Word's answer -/
def wordA (s : ByteArray) (i : Int) : Nat := heldAt s i + findN false (s.data.toList.drop (heldAt s i))
def wordL (s : ByteArray) (i : Int) : Nat := findN true (s.data.toList.drop (wordA s i))
def wordS (s : ByteArray) (i : Int) : ByteArray := s.extract (wordA s i) (wordA s i + wordL s i)
def wordN (s : ByteArray) (i : Int) : Nat := min (wordA s i + wordL s i + 1) s.size

theorem findN_at (is : Bool) (l : List UInt8) (k : Nat) (h : ∃ c, l[k]? = some c ∧ ((decide (c ≤ 32)) == is) = true)
    (hb : ∀ j, j < k → ∀ c, l[j]? = some c → ((decide (c ≤ 32)) == is) = false) : findN is l = k := by
  obtain ⟨c, hc, ht⟩ := h
  obtain ⟨hk, rfl⟩ := List.getElem?_eq_some_iff.1 hc
  unfold findN
  rw [List.findIdx_eq hk]
  exact ⟨ht, fun j hj => hb j hj _ (List.getElem?_eq_getElem (by omega))⟩
theorem findN_none (is : Bool) (l : List UInt8) (hb : ∀ (j : Nat) (c : UInt8), l[j]? = some c → ((decide (c ≤ 32)) == is) = false) : findN is l = l.length := by
  unfold findN
  rw [List.findIdx_eq_length]
  intro c hc
  obtain ⟨j, hj⟩ := List.getElem?_of_mem hc
  exact hb j c hj

set_option maxHeartbeats 400000 in
theorem find_any (s : ByteArray) (is : Bool) (w : World) (hs : s.size ≤ maxLen) :
    Calls Try.prog 25 #[.string s, .bool is] w fun e w' => e = .returned (.int .i64 (findN is s.data.toList)) ∧ w = w' := by
  unfold maxLen at hs
  go_enter Try.func25, Try.ntmps25
  go_wp2
  go_loop [8] (fun i => ∃ k : Nat, k ≤ s.size ∧ i = .int .i64 k ∧ ∀ j, j < k → ∀ c, s.data.toList[j]? = some c → ((decide (c ≤ 32)) == is) = false) (fun i => s.size - (intOf i).toNat)
  case atStart => exact ⟨0, Nat.zero_le _, rfl, fun j h => by omega⟩
  case round =>
    obtain ⟨k, hk, rfl, hb⟩ := hrel
    have HB := Lib.hid hb
    clear hb
    by_cases hlt : k < s.size
    · have HG := Lib.hid (str_get s k hlt)
      have HD : Hid (decide ((s[k].toNat : Int) ≤ 32) = decide (s[k] ≤ 32)) := by
        show _ = _
        rw [decide_eq_decide, UInt8.le_iff_toNat_le]; exact ⟨fun h => Int.ofNat_le.1 h, fun h => Int.ofNat_le.2 h⟩
      rcases Bool.eq_false_or_eq_true (decide ((s[k].toNat : Int) ≤ 32) == is) with ht | ht
      · go_wp2
        go_ret
        refine ⟨ret1 (vint ?_), rfl⟩
        rw [HD.out] at ht
        have e : findN is s.data.toList = k := findN_at is _ k (by rw [HG.out]; exact ⟨_, rfl, ht⟩) HB.out
        rw [e]
      · go_wp2
        refine ⟨⟨k + 1, by omega, by go_num, fun j hj c hc => ?_⟩, by simp [intOf]; omega⟩
        rcases Nat.lt_or_ge j k with h1 | h1
        · exact HB.out j h1 c hc
        · obtain rfl : j = k := by omega
          rw [HG.out] at hc
          obtain rfl := Option.some.inj hc
          rw [← HD.out]
          exact ht
    · go_wp2
      go_ret
      refine ⟨ret1 (vint ?_), rfl⟩
      have e : findN is s.data.toList = s.size := by
        rw [← str_size]
        refine findN_none is _ fun j c hj => HB.out j ?_ c hj
        have := str_size s
        have := (List.getElem?_eq_some_iff.1 hj).1
        omega
      rw [e]

/-- what rest and find tell, said of names -/
structure RestIs (s : ByteArray) (i : Int) (r : ByteArray) (h : Nat) : Prop where
  at_ : h = heldAt s i
  list : r.data.toList = s.data.toList.drop h
  size : r.size = s.size - h
theorem rest_is (s : ByteArray) (i : Int) (w : World) (hs : s.size ≤ maxLen) :
    Calls Try.prog 24 #[.string s, .int .i64 i] w fun e w' => ∃ r h, RestIs s i r h ∧ h ≤ s.size ∧ r.size ≤ s.size - h ∧ e = .returned (.tuple #[.string r, .int .i64 (h : Nat)]) ∧ w = w' :=
  (rest_any s i w hs).mono fun _ _ ⟨he, hw⟩ => by
    have hz : (restS s i).size = s.size - heldAt s i := by rw [← str_size, restS_list, List.length_drop, str_size]
    exact ⟨_, _, ⟨rfl, restS_list s i, hz⟩, heldAt_le s i, Nat.le_of_eq hz, he, hw⟩
def FindIs (is : Bool) (s : ByteArray) (n : Nat) : Prop := n = findN is s.data.toList
theorem find_is (s : ByteArray) (is : Bool) (w : World) (hs : s.size ≤ maxLen) :
    Calls Try.prog 25 #[.string s, .bool is] w fun e w' => ∃ n, FindIs is s n ∧ n ≤ s.size ∧ e = .returned (.int .i64 (n : Nat)) ∧ w = w' :=
  (find_any s is w hs).mono fun _ _ ⟨he, hw⟩ => ⟨_, rfl, by rw [← str_size]; exact findN_le _ _, he, hw⟩

theorem word_end {s r : ByteArray} {i : Int} {h n m : Nat} (HR : RestIs s i r h) (HN : FindIs false r n) (HM : FindIs true (r.extract n r.size) m) :
    wordA s i = h + n ∧ wordL s i = m ∧ (r.extract n r.size).extract 0 m = wordS s i ∧ wordN s i = min (h + n + m + 1) s.size := by
  have hA : wordA s i = h + n := by unfold wordA; rw [← HR.at_, ← HR.list, HN]
  have hL : wordL s i = m := by unfold wordL; rw [hA, HM, ext_rest, HR.list, List.drop_drop]
  refine ⟨hA, hL, ?_, by unfold wordN; rw [hA, hL]⟩
  refine str_ext ?_
  unfold wordS
  rw [ext_list, ext_rest, ext_list, HR.list, hA, hL, List.drop_zero, List.drop_drop, List.take_drop]
theorem Word_any (s : ByteArray) (i : Int) (w : World) (hs : s.size ≤ 140737488355328) :
    Calls Try.prog 21 #[.string s, .int .i64 i] w fun e w' => e = .returned (.tuple #[.string (wordS s i), .int .i64 (wordN s i)]) ∧ w = w' := by
  go_enter Try.func21, Try.ntmps21
  go_wp2_with (go_at_call 24; refine (rest_is s i _ (by unfold maxLen; omega)).mono ?_; rintro e w' ⟨r, h, HR, hh, hr, rfl, rfl⟩)
  refine (find_is r false _ (by unfold maxLen; omega)).mono ?_
  rintro e w' ⟨n, HN, hn, rfl, rfl⟩
  go_wp2_with fail
  refine (find_is (r.extract n r.size) true _ (by unfold maxLen; rw [ByteArray.size_extract]; omega)).mono ?_
  rintro e w' ⟨m, HM, hm, rfl, rfl⟩
  rw [ByteArray.size_extract] at hm
  have hm1 : m ≤ r.size - n := by omega
  clear hm
  go_wp2_with fail
  all_goals go_ret2
  all_goals obtain ⟨_, _, h3, h4⟩ := word_end HR HN HM
  all_goals refine ⟨ret2 (vstr h3) (vint ?_), rfl⟩
  all_goals rw [h4]
  all_goals omega

end Go.Proofs.Ytnkepejdboppcaa
