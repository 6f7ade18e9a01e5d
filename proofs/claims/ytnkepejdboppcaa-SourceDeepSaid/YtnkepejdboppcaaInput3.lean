/- The contracts of source.Input's methods where they refuse, of Cut and Restore, and of a nil Input. -/
import Derived.Test.YtnkepejdboppcaaInput2
import Derived.Deep.LoopGhost
namespace Go.Proofs.Ytnkepejdboppcaa
open Go.RowKit

theorem Open_long (w : World) (b : Nat) (s : ByteArray) (hs : 1000 < s.size) (hm : s.size ≤ maxLen) :
    Calls Try.prog 9 #[.pointer (some ⟨b, 0, none⟩), .string s] w fun e w' => e = .returned (.int .i64 3) ∧ w = w' := by
  unfold maxLen at hm
  go_enter Try.func9, Try.ntmps9
  go_wp2
  go_ret
  exact ⟨rfl, rfl⟩
theorem Open_deep (w : World) (b : Nat) (F : List Nat) (S : Ins) (s : ByteArray) (h : InAt w b F S) (hs : s.size ≤ 1000) (hd : 8 ≤ S.outer.length) :
    Calls Try.prog 9 #[.pointer (some ⟨b, 0, none⟩), .string s] w fun e w' => e = .returned (.int .i64 (-5)) ∧ w = w' := by
  obtain ⟨v, hb, rfl, hnb, hr⟩ := h
  obtain ⟨c0, c1, c2, c3, c4, c5, f0, f1, f2, f3, f4, f5⟩ := six hb
  go_enter Try.func9, Try.ntmps9
  go_wp2
  go_ret
  exact ⟨rfl, rfl⟩
theorem Close_none (w : World) (b : Nat) (F : List Nat) (S : Ins) (h : InAt w b F S) (hl : S.outer.length = 0) :
    Calls Try.prog 12 #[.pointer (some ⟨b, 0, none⟩)] w fun e w' => e = .returned (.int .i64 2) ∧ w = w' := by
  have hdep := Depth_any w b F S h
  rw [hl] at hdep
  have HD := Lib.hid hdep
  clear hdep hl h
  go_enter Try.func12, Try.ntmps12
  go_wp2_with (go_at_call 14; refine HD.out.mono ?_; rintro e w' ⟨rfl, rfl⟩)
  go_ret
  exact ⟨rfl, rfl⟩

/-- Cut's answer -/
def Ins.cutAll (S : Ins) (n : Nat) : Ins := if n < S.outer.length then ⟨S.outer.getD n .none, S.outer.take n, S.many⟩ else S

theorem Restore_no (w : World) (b : Nat) (F : List Nat) (S : Ins) (h : InAt w b F S) (hm : S.cur.text.size ≤ 1000) (id i : Int) (hn : S.outer.length = 0 ∨ id ≠ S.cur.id ∨ i < 0 ∨ (S.cur.text.size : Int) < i) :
    Calls Try.prog 17 #[.pointer (some ⟨b, 0, none⟩), .int .i64 id, .int .i64 i] w fun e w' => e = .returned (.bool false) ∧ w = w' := by
  have hdep := Depth_any w b F S h
  obtain ⟨v, hb, rfl, hnb, hr⟩ := h
  obtain ⟨c0, c1, c2, c3, c4, c5, f0, f1, f2, f3, f4, f5⟩ := six hb
  have HD := Lib.hid hdep
  clear hdep hr
  by_cases h0 : S.outer.length = 0
  · have t0 : ((S.outer.length : Int) == 0) = true := by simp [h0]
    clear h0 hn
    go_enter Try.func17, Try.ntmps17
    go_wp2_with (go_at_call 14; refine HD.out.mono ?_; rintro e w' ⟨rfl, rfl⟩)
    go_ret
    exact ⟨rfl, rfl⟩
  · have t0 : ((S.outer.length : Int) == 0) = false := by simp [h0]
    by_cases h1 : id = S.cur.id
    · subst h1
      rcases hn with hn | hn | hn | hn
      · exact absurd hn h0
      · exact absurd rfl hn
      all_goals
        clear h0
        go_enter Try.func17, Try.ntmps17
        go_wp2_with (go_at_call 14; refine HD.out.mono ?_; rintro e w' ⟨rfl, rfl⟩)
        go_ret
        exact ⟨rfl, rfl⟩
    · have t1 : (id == (S.cur.id : Int)) = false := by simpa using h1
      have t2 : (id != (S.cur.id : Int)) = true := by simpa using h1
      clear h0 h1 hn
      go_enter Try.func17, Try.ntmps17
      go_wp2_with (go_at_call 14; refine HD.out.mono ?_; rintro e w' ⟨rfl, rfl⟩)
      go_ret
      exact ⟨rfl, rfl⟩

theorem Restore_yes (w : World) (b : Nat) (F : List Nat) (S : Ins) (h : InAt w b F S) (_hm : S.cur.text.size ≤ 1000) (h0 : S.outer.length ≠ 0) (i : Nat) (hi : i ≤ S.cur.text.size) :
    Calls Try.prog 17 #[.pointer (some ⟨b, 0, none⟩), .int .i64 S.cur.id, .int .i64 i] w fun e w' => e = .returned (.bool true) ∧ Left w b F { S with cur := { S.cur with on := i } } w' := by
  have hdep := Depth_any w b F S h
  obtain ⟨v, hb, rfl, hnb, hr⟩ := h
  obtain ⟨c0, c1, c2, c3, c4, c5, f0, f1, f2, f3, f4, f5⟩ := six hb
  have HD := Lib.hid hdep
  have HR := Lib.hid hr
  have t0 : ((S.outer.length : Int) == 0) = false := by simp [h0]
  clear hdep hr h0
  go_enter Try.func17, Try.ntmps17
  go_wp2_with (go_at_call 14; refine HD.out.mono ?_; rintro e w' ⟨rfl, rfl⟩)
  go_ret
  exact ⟨rfl, in_on hb hnb HR.out _ _ rfl⟩

theorem Open_nil (w : World) (s : ByteArray) : Calls Try.prog 9 #[.pointer none, .string s] w fun e w' => e = .returned (.int .i64 2) ∧ w = w' := by
  go_enter Try.func9, Try.ntmps9
  go_wp2
  go_ret
  exact ⟨rfl, rfl⟩
theorem Depth_nil (w : World) : Calls Try.prog 14 #[.pointer none] w fun e w' => e = .returned (.int .i64 0) ∧ w = w' := by
  go_enter Try.func14, Try.ntmps14
  go_wp2
  go_ret
  exact ⟨rfl, rfl⟩
theorem Close_nil (w : World) : Calls Try.prog 12 #[.pointer none] w fun e w' => e = .returned (.int .i64 2) ∧ w = w' := by
  go_enter Try.func12, Try.ntmps12
  go_wp2_with (go_at_call 14; refine (Depth_nil _).mono ?_; rintro e w' ⟨rfl, rfl⟩)
  go_ret
  exact ⟨rfl, rfl⟩
theorem Word_nil (w : World) : Calls Try.prog 10 #[.pointer none] w fun e w' => e = .returned (.string .empty) ∧ w = w' := by
  go_enter Try.func10, Try.ntmps10
  go_wp2
  go_ret
  exact ⟨rfl, rfl⟩
theorem Restore_nil (w : World) : Calls Try.prog 17 #[.pointer none, .int .i64 0, .int .i64 0] w fun e w' => e = .returned (.bool false) ∧ w = w' := by
  go_enter Try.func17, Try.ntmps17
  go_wp2_with (go_at_call 14; refine (Depth_nil _).mono ?_; rintro e w' ⟨rfl, rfl⟩)
  go_ret
  exact ⟨rfl, rfl⟩

theorem cutAll_len (S : Ins) (k : Nat) (hk : k ≤ S.outer.length) : (S.cutAll k).outer.length = k := by
  unfold Ins.cutAll; split
  · simp; omega
  · omega
theorem cut_step {S : Ins} {k : Nat} (hk : k < S.outer.length) : (S.cutAll (k + 1)).outer = (S.cutAll k).outer ++ [(S.cutAll k).cur] ∧ (S.cutAll (k + 1)).close (S.cutAll k).cur (S.cutAll k).outer = S.cutAll k := by
  have e : S.cutAll k = ⟨S.outer.getD k .none, S.outer.take k, S.many⟩ := by unfold Ins.cutAll; rw [if_pos hk]
  have hg : S.outer.getD k .none = S.outer[k] := by simp [List.getD, List.getElem?_eq_getElem hk]
  rw [e, hg]
  refine ⟨?_, ?_⟩
  · unfold Ins.cutAll
    split
    · exact List.take_succ_eq_append_getElem hk
    · have e2 : S.outer.take (k + 1) = S.outer := List.take_of_length_le (by omega)
      exact e2.symm.trans (List.take_succ_eq_append_getElem hk)
  · unfold Ins.close Ins.cutAll
    split <;> rfl
theorem cutAll_of_le (S : Ins) (k : Nat) (h : S.outer.length ≤ k) : S.cutAll k = S := by unfold Ins.cutAll; rw [if_neg (by omega)]

theorem Left.trans {w w1 w2 : World} {b : Nat} {F F1 : List Nat} {S T : Ins} (_h : InAt w1 b F1 T) (ht : Touch F w w1) (hs : Sub w F F1) (k : Left w1 b F1 S w2) : Left w b F S w2 := by
  obtain ⟨F2, h1, h2, h3⟩ := k
  exact ⟨F2, h1, ht.trans h2 hs, hs.trans h3 ht.size⟩

set_option maxHeartbeats 800000 in
theorem Cut_any (w : World) (b : Nat) (F : List Nat) (S : Ins) (h : InAt w b F S) (i : Int) (hd : S.outer.length ≤ 8) :
    Calls Try.prog 11 #[.pointer (some ⟨b, 0, none⟩), .int .i64 i] w fun e w' => e = .returned (.tuple #[]) ∧ Left w b F (S.cutAll i.toNat) w' := by
  have hm : min i.toNat S.outer.length ≤ S.outer.length := by omega
  go_enter Try.func11, Try.ntmps11
  go_wp2_with fail
  go_loopg [] (S.outer.length - min i.toNat S.outer.length) (fun g wr => ∃ k, min i.toNat S.outer.length ≤ k ∧ k ≤ S.outer.length ∧ g = k - min i.toNat S.outer.length ∧ Left w b F (S.cutAll k) wr)
  case atStart => exact ⟨S.outer.length, hm, Nat.le_refl _, rfl, by rw [cutAll_of_le S _ (Nat.le_refl _)]; exact ⟨F, h, Touch.refl _ _, Sub.refl _ _⟩⟩
  case round =>
    obtain ⟨k, hk1, hk2, hg, F1, h1, ht1, hs1⟩ := hrel
    have HG := Lib.hid hg
    have HD := Lib.hid (Depth_any wr b F1 _ h1)
    have hlen := cutAll_len S k hk2
    rw [hlen] at HD
    have HL := Lib.hid hlen
    clear hg hlen
    rcases Int.lt_or_le i 0 with hi | hi
    all_goals
      rcases Nat.lt_or_ge i.toNat k with hlt | hge
      · obtain ⟨q, rfl⟩ : ∃ q, k = q + 1 := ⟨k - 1, by omega⟩
        obtain ⟨hs, hc⟩ := cut_step (S := S) (k := q) (by omega)
        have HC := Lib.hid (Close_yes wr b F1 _ h1 _ _ hs (by have := congrArg List.length hs; rw [HL.out] at this; simp at this; omega))
        rw [hc] at HC
        clear hs hc
        go_wp2_with (first
          | (go_at_call 14; refine HD.out.mono ?_; rintro e w' ⟨rfl, rfl⟩)
          | (go_at_call 12; refine HC.out.mono ?_; rintro e w2 ⟨rfl, hL⟩))
        go_roundg (q - min i.toNat S.outer.length)
        case measure => rw [HG.out]; omega
        case rel => exact ⟨q, by omega, by omega, rfl, Left.trans h1 ht1 hs1 hL⟩
      · go_wp2_with (go_at_call 14; refine HD.out.mono ?_; rintro e w' ⟨rfl, rfl⟩)
        go_end0
        refine ⟨rfl, ?_⟩
        have e : S.cutAll i.toNat = S.cutAll k := by
          rcases Nat.lt_or_ge i.toNat S.outer.length with h3 | h3
          · rw [show k = i.toNat by omega]
          · rw [cutAll_of_le S _ h3, cutAll_of_le S k (by omega)]
        rw [e]
        exact ⟨F1, h1, ht1, hs1⟩

end Go.Proofs.Ytnkepejdboppcaa
