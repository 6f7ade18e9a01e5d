/- SourceSeeks: the walk of the law. -/
import Derived.Test.YtnkepejdboppcaaShown8
import Derived.Test.YtnkepejdboppcaaRefScan
import Derived.Deep.DeepCutAuto
namespace Go.Proofs.Ytnkepejdboppcaa
open Go.RowKit

theorem New.ask {B : Nat} {w w1 : World} {b : Nat} {S : Ins} {P : Program} {fn : FuncId} {args : Array Value} {R : Ending → World → Prop} (h : New B w b S w1) (c : ∀ F, InAt w1 b F S → Calls P fn args w1 R) : Calls P fn args w1 R := by
  obtain ⟨⟨F, h1, h2⟩, h3⟩ := h
  exact c F h1
theorem New.did {B : Nat} {w w1 : World} {b : Nat} {S T : Ins} {P : Program} {fn : FuncId} {args : Array Value} {v : Value} (h : New B w b S w1) (hB : B ≤ w.heap.size) (c : ∀ F, InAt w1 b F S → Calls P fn args w1 fun e w' => e = .returned v ∧ Left w1 b F T w') :
    Calls P fn args w1 fun e w' => e = .returned v ∧ New B w b T w' := by
  obtain ⟨⟨F, h1, h2⟩, h3⟩ := h
  exact (c F h1).mono fun _ _ ⟨he, hl⟩ => ⟨he, New.step h1 h2 h3 hB hl⟩
theorem New.drewN {B : Nat} {w w1 : World} {b : Nat} {S : Ins} (h : New B w b S w1) (n : Nat) : New B w b S (w1.drewN n) :=
  ⟨h.inn, ⟨h.below.os, h.below.tape, h.below.output, h.below.size, h.below.block⟩⟩
/-- an Input that is new behind what was done -/
theorem New.later {w w1 w2 : World} (hb : Below w.heap.size w w1) (h : InAt w2 w1.heap.size [w1.heap.size] ins0) (ht : Touch [] w1 w2) : New w.heap.size w w1.heap.size ins0 w2 :=
  ⟨⟨_, h, by have := hb.size; simp; omega⟩, hb.trans (ht.below hb.size (by simp))⟩

/-- a text opened, and read from a place on; and how many sources there were -/
def seekR (t : ByteArray) (a i : Nat) : Ins := ⟨⟨t, 1, a⟩, [.none], 1 + i⟩
def seekO (t : ByteArray) (a i : Nat) : Ins := ⟨⟨t, 1 + i + 1, 0⟩, [.none, ⟨t, 1, a⟩], 1 + i + 1⟩

set_option maxRecDepth 100000 in
set_option maxHeartbeats 1600000 in
theorem seeks_walk (w : World) (s : ByteArray) (n m : Int) (hs : s.size ≤ maxLen) (hm0 : 0 ≤ m) (hm1 : m ≤ 255) :
    Calls Try.prog 5 #[.string s, .int .i64 n, .int .u8 m] w fun e w' => e = .returned (.bool true) ∧ Below w.heap.size w w' := by
  unfold maxLen at hs
  go_enter Try.func5, Try.ntmps5
  go_wp2_with fail
  refine (shown8 w).mono ?_
  rintro e w1 ⟨rfl, hb1⟩
  go_upto_region 2 with (fail)
  go_cut [8] (fun s8 wx => w1 = wx ∧ ∃ t : ByteArray, t.size ≤ 1000 ∧ s8 = .string t)
  case first =>
    go_wp2_with fail
    all_goals go_meet
    · exact ⟨rfl, _, by rw [ByteArray.size_extract]; omega, rfl⟩
    · exact ⟨rfl, s, by omega, rfl⟩
  case rest =>
    obtain ⟨rfl, t, ht, rfl⟩ := hcut
    clear hs
    go_wp2_with fail
    refine (New_in w1).mono ?_
    rintro e w2 ⟨rfl, hp, tp⟩
    have n0 := New.later hb1 hp tp
    clear hp tp
    go_wp2_with fail
    refine (n0.open_ (Nat.le_refl _) t ht (by decide) (by decide)).mono ?_
    rintro e w3 ⟨rfl, n1⟩
    go_wp2_with fail
    refine (n1.did (Nat.le_refl _) fun F hF => Seek_any w3 _ F _ hF n ht).mono ?_
    rintro e w4 ⟨rfl, n2 : New _ w _ (seekR t (heldAt t n) 0) w4⟩
    go_upto_region 7 with (fail)
    go_cut [10] (fun s10 wx => w4 = wx ∧ s10 = .int .i64 (heldAt t n))
    case first =>
      rcases Int.lt_or_le n 0 with h1 | h1
      · have e : heldAt t n = 0 := by unfold heldAt; omega
        have HE := Lib.hid e
        clear e
        go_wp2_with fail
        go_meet
        exact ⟨rfl, by rw [HE.out]; rfl⟩
      · obtain ⟨q, rfl⟩ := Int.eq_ofNat_of_zero_le h1
        rcases Nat.lt_or_ge t.size q with h2 | h2
        · have e : heldAt t q = t.size := by unfold heldAt; omega
          have HE := Lib.hid e
          clear e
          go_wp2_with fail
          go_meet
          exact ⟨rfl, by rw [HE.out]⟩
        · have e : heldAt t q = q := by unfold heldAt; omega
          have HE := Lib.hid e
          clear e
          go_wp2_with fail
          go_meet
          exact ⟨rfl, by rw [HE.out]⟩
    case rest =>
      obtain ⟨rfl, rfl⟩ := hcut
      obtain ⟨a, ha⟩ : ∃ a, heldAt t n = a := ⟨_, rfl⟩
      have hale : a ≤ t.size := ha ▸ heldAt_le t n
      rw [ha] at n2 ⊢
      clear ha
      go_wp2_with fail
      refine (n2.ask fun F hF => Save_any w4 _ F _ hF).mono ?_
      rintro e w5 ⟨rfl, k5, rfl⟩
      have n3 := n2.drewN k5
      clear n0 n1 n2
      unfold seekR
      go_wp2_with fail
      refine (n3.ask fun F hF => In_any _ _ F _ hF).mono ?_
      rintro e w6 ⟨rfl, rfl⟩
      unfold seekR
      go_wp2_with fail
      go_loopw [62] (fun i wr => ∃ j : Nat, (j : Int) ≤ m % 21 ∧ i = .int .u8 j ∧ New w.heap.size w w1.heap.size (seekR t a j) wr) (fun i _ => 21 - (intOf i).toNat)
      case atStart => exact ⟨0, by omega, rfl, n3⟩
      case round =>
        obtain ⟨j, hj, rfl, nr⟩ := hrel
        by_cases hlt : (j : Int) < m % 21
        · have hj20 : j < 20 := by omega
          go_wp2_with fail
          refine (nr.open_ (Nat.le_refl _) t ht (by simp [seekR]) (by simp [seekR]; omega)).mono ?_
          rintro e w7 ⟨rfl, n7 : New _ w _ (seekO t a j) w7⟩
          go_wp2_with fail
          refine (n7.ask fun F hF => Save_any w7 _ F _ hF).mono ?_
          rintro e w8 ⟨rfl, k8, rfl⟩
          have n8 := n7.drewN k8
          unfold seekO
          go_wp2_with fail
          refine (n8.ask fun F hF => Restore_no _ _ F _ hF (by simpa [seekO] using ht) 1 0 (.inr (.inl (by simp [seekO]; omega)))).mono ?_
          rintro e w9 ⟨rfl, rfl⟩
          go_wp2_with fail
          refine (n8.close (Nat.le_refl _) [.none] ⟨t, 1, a⟩ rfl (by decide)).mono ?_
          rintro e w10 ⟨rfl, n10 : New _ w _ (seekR t a (j + 1)) w10⟩
          clear n7 n8 nr
          go_wp2_with fail
          refine (n10.ask fun F hF => In_any _ _ F _ hF).mono ?_
          rintro e w11 ⟨rfl, rfl⟩
          unfold seekR
          go_wp2_with fail
          exact ⟨⟨j + 1, by omega, by go_num, n10⟩, by simp [intOf]; omega⟩
        · go_wp2_with fail
          refine (nr.word (Nat.le_refl _) (by simpa [seekR] using ht)).mono ?_
          rintro e w7 ⟨rfl, n7⟩
          unfold seekR
          go_wp2_with fail
          refine (RefWord_any t a _ (by omega)).mono ?_
          rintro e w8 ⟨rfl, rfl⟩
          go_wp2_with fail
          refine (n7.ask fun F hF => In_any _ _ F _ hF).mono ?_
          rintro e w9 ⟨rfl, rfl⟩
          unfold seekR
          go_wp2_with fail
          go_ret
          exact ⟨rfl, n7.below⟩

end Go.Proofs.Ytnkepejdboppcaa
