/- rhytonref04.Text. -/
import Derived.Test.YtibifcchmccknaaDoorText5
import Derived.Deep.RegionWith
namespace Go.Proofs.YtibifcchmccknaaDoor
open Go.RowKit

theorem part_rg (x : Nat) :
    (nanB x → partF x = ⟨0, Fl.sg x, ((x % 4503599627370496 : Nat) : Int), 0⟩) ∧ (Fl.rg x = 9218868437227405312 → partF x = ⟨1, Fl.sg x, ((x % 4503599627370496 : Nat) : Int), 0⟩) ∧
    (Fl.rg x < 9218868437227405312 → partF x = ⟨2, Fl.sg x, ((Fl.M (Fl.rg x) : Nat) : Int), (Fl.E (Fl.rg x) : Int) - 1074⟩) := by
  unfold nanB
  obtain ⟨r, hr⟩ : ∃ r, Fl.rg x = r := ⟨_, rfl⟩
  have hr2 : x % 9223372036854775808 = r := hr
  rw [hr]
  have hfr : x % 4503599627370496 = r % 4503599627370496 := by omega
  have he : x / 4503599627370496 % 2048 = r / 4503599627370496 := by omega
  unfold partF
  rw [he, hfr]
  refine ⟨fun h => ?_, fun h => ?_, fun h => ?_⟩
  · rw [if_pos (by omega), if_neg (by omega)]
  · rw [if_pos (by omega), if_pos (by omega)]
  · rw [if_neg (by omega)]
    unfold Fl.M Fl.E
    by_cases h0 : r / 4503599627370496 = 0
    · rw [if_pos h0, if_pos (by omega), if_pos (by omega), Nat.mod_eq_of_lt (by omega)]
      rfl
    · rw [if_neg h0, if_neg (by omega), if_neg (by omega), Nat.add_comm]
      congr 1
      omega

theorem nan_or' (x : Nat) : nanB x ∨ Fl.rg x = 9218868437227405312 ∨ Fl.rg x < 9218868437227405312 := by
  unfold nanB
  omega

theorem itoa_nat (m : Nat) : Lib.itoa (m : Int) = Lib.decDigits m := by
  unfold Lib.itoa
  rw [if_neg (by omega), Int.toNat_natCast]
theorem dec_small (m : Nat) (h : m < 9007199254740992) : (⟨(Lib.decDigits m).toArray⟩ : ByteArray).size ≤ 30 := by
  rw [size_of]
  have := dec_len 16 m (by omega) (by omega)
  omega
theorem itoa_small (n : Int) (h0 : -5000 ≤ n) (h1 : n ≤ 5000) : (⟨(Lib.itoa n).toArray⟩ : ByteArray).size ≤ 30 := by
  rw [size_of]
  unfold Lib.itoa
  split
  · have := dec_len 4 n.natAbs (by omega) (by omega)
    rw [List.length_cons]
    omega
  · have := dec_len 4 n.toNat (by omega) (by omega)
    omega

set_option maxRecDepth 100000 in
set_option maxHeartbeats 3200000 in
theorem rtext_any (f : Int) (f0 : -9223372036854775808 ≤ f) (f1 : f ≤ 9223372036854775807) (w : World) :
    Calls Tryd.prog 21 #[.int .i64 f] w fun e w' => ∃ s, TextIs (bitsOf f) s ∧ e = .returned (.string s) ∧ Touch [] w w' := by
  have hop := fun W => open_any f f0 f1 W
  obtain ⟨x, hx⟩ : ∃ x, bitsOf f = x := ⟨_, rfl⟩
  rw [hx] at hop ⊢
  obtain ⟨hn, hi, hfin⟩ := part_rg x
  have hsg : sgnS x = if Fl.sg x then ⟨#[45]⟩ else ⟨#[]⟩ := rfl
  clear hx f0 f1
  rcases nan_or' x with hc | hc | hc
  · rw [hn hc] at hop
    have HC := Lib.hid hc
    clear hn hi hfin hc hsg
    go_enter Tryd.func21, Tryd.ntmps21
    go_wp2_with fail
    refine (hop _).mono ?_
    rintro _ w1 ⟨rfl, t1⟩
    go_wp2_with fail
    go_ret
    exact ⟨_, .inl ⟨HC.out, rfl⟩, rfl, t1.alloc _⟩
  · rw [hi hc] at hop
    have HC := Lib.hid hc
    have HS := Lib.hid hsg
    clear hn hi hfin hc hsg
    obtain ⟨sg, hse⟩ : ∃ sg, Fl.sg x = sg := ⟨_, rfl⟩
    rw [hse] at hop HS
    clear hse
    rcases sg with _ | _
    all_goals
      go_enter Tryd.func21, Tryd.ntmps21
      go_wp2_with fail
      refine (hop _).mono ?_
      rintro _ w1 ⟨rfl, t1⟩
      go_wp2_with fail
      go_ret
      exact ⟨_, .inr (.inl ⟨HC.out, by rw [HS.out]; rfl⟩), rfl, t1.alloc _⟩
  · rw [hfin hc] at hop
    have hE := Fl.E_le hc
    have hM := Fl.M_lt (Fl.rg x)
    have hM0 : Fl.M (Fl.rg x) = 0 → Fl.rg x = 0 := by unfold Fl.M; split <;> omega
    have HNv : Hid (Fl.Nv (Fl.rg x) = Fl.M (Fl.rg x) * 2 ^ Fl.E (Fl.rg x)) := rfl
    have HC := Lib.hid hc
    have HS := Lib.hid hsg
    have HM0 := Lib.hid hM0
    clear hn hi hfin hc hsg hM0
    obtain ⟨M, hMe⟩ : ∃ M, Fl.M (Fl.rg x) = M := ⟨_, rfl⟩
    obtain ⟨E, hEe⟩ : ∃ E, Fl.E (Fl.rg x) = E := ⟨_, rfl⟩
    rw [hMe, hEe] at hop HNv
    rw [hMe] at hM HM0
    rw [hEe] at hE
    obtain ⟨sg, hse⟩ : ∃ sg, Fl.sg x = sg := ⟨_, rfl⟩
    rw [hse] at hop HS
    clear hse hMe hEe
    by_cases hz : M = 0
    · have hr0 := HM0.out hz
      have HR := Lib.hid hr0
      subst hz
      clear hr0
      rcases sg with _ | _
      all_goals
        go_enter Tryd.func21, Tryd.ntmps21
        go_wp2_with fail
        refine (hop _).mono ?_
        rintro _ w1 ⟨rfl, t1⟩
        go_wp2_with fail
        go_ret
        exact ⟨_, .inr (.inr (.inl ⟨HR.out, by rw [HS.out]; rfl⟩)), rfl, t1.alloc _⟩
    · have hMn : ((M : Int) == 0) = false := beq_eq_false_iff_ne.2 (by omega)
      clear HM0
      have hdM := fun (m : Nat) (hm : m < 9007199254740992) W => digits_any (m : Int) (by omega) (by omega) W
      have hdE := fun (e : Int) (h0 : -5000 ≤ e) (h1 : e ≤ 5000) W => digits_any e (by omega) (by omega) W
      go_enter Tryd.func21, Tryd.ntmps21
      go_wp2_with fail
      refine (hop _).mono ?_
      rintro _ w1 ⟨rfl, t1⟩
      clear hop
      go_upto_region 4 with (fail)
      have bP := Blk.new w1 59 #[.int .i64 2, .bool sg, .int .u64 (M : Int), .int .i64 ((E : Int) - 1074)]
      have tw := t1.alloc (.cells #[.int .i64 2, .bool sg, .int .u64 (M : Int), .int .i64 ((E : Int) - 1074)] 59)
      have hge : w.heap.size ≤ w1.heap.size := t1.size
      clear t1
      generalize w1.alloc (.cells #[.int .i64 2, .bool sg, .int .u64 (M : Int), .int .i64 ((E : Int) - 1074)] 59) = wA at *
      generalize w1.heap.size = b at *
      rcases sg with _ | _
      all_goals
        have c0 := bP.cell 0
        have c1 := bP.cell 1
        have c2 := bP.cell 2
        go_wp2_with fail
        clear c0 c1 c2
        go_loopw [22] (fun _ wr => ∃ (m j : Nat), m ≠ 0 ∧ M = m * 2 ^ j ∧ Touch [] w wr ∧ ∃ sg, Blk wr b 59 #[.int .i64 2, .bool sg, .int .u64 (m : Int), .int .i64 ((E : Int) + j - 1074)]) (fun _ wr => match wr.cell? ⟨b, 2, none⟩ with | some (.int _ m) => m.toNat | _ => 0)
        case atStart => exact ⟨M, 0, hz, by simp, tw, _, by simpa using bP⟩
        case round =>
          obtain ⟨m, j, hm0, hMm, tr, sg, bR⟩ := hrel
          have hj : j ≤ 53 := by
            have h1 : 2 ^ j ≤ M := by rw [hMm]; exact Nat.le_mul_of_pos_left _ (Nat.pos_of_ne_zero hm0)
            exact Nat.le_of_lt (Nat.pow_lt_pow_iff_right (a := 2) (by decide) |>.1 (Nat.lt_of_le_of_lt h1 (by omega : M < 2 ^ 53)))
          have hmM : m ≤ M := by rw [hMm]; exact Nat.le_mul_of_pos_right _ (Nat.two_pow_pos j)
          have HMm := Lib.hid hMm
          have hbl := bR.lt
          have c2 := bR.cell 2
          have c3 := bR.cell 3
          have f2 := bR.frozen 2
          have f3 := bR.frozen 3
          clear hMm
          by_cases hev : m % 2 = 0
          · have hev' : ((m : Int) % 2 == 0) = true := by rw [beq_iff_eq]; omega
            go_wp2_with fail
            have bS := (bR.set_ 2 (.int .u64 ((m / 2 : Nat) : Int))).set_ 3 (.int .i64 ((E : Int) + ((j + 1 : Nat) : Int) - 1074))
            have e3 : (E : Int) + j - 1074 + 1 = (E : Int) + ((j + 1 : Nat) : Int) - 1074 := by omega
            rw [e3]
            refine ⟨⟨m / 2, j + 1, by omega, ?_, (tr.setCell (.inr hge) _).setCell (.inr hge) _, _, bS⟩, ?_⟩
            · rw [HMm.out, Nat.pow_succ, Nat.mul_comm (2 ^ j) 2, ← Nat.mul_assoc]
              congr 1
              omega
            · have := bS.cell 2
              rw [show (m : Int) / 2 = ((m / 2 : Nat) : Int) from rfl, this, c2]
              show ((m / 2 : Nat) : Int).toNat < (m : Int).toNat
              omega
          · have hev' : ((m : Int) % 2 == 0) = false := beq_eq_false_iff_ne.2 (by omega)
            go_upto_region 14 with (fail)
            have h1 := hdM m (by omega)
            have h2 := hdE ((E : Int) + j - 1074) (by omega) (by omega)
            rw [itoa_nat] at h1
            have z1 := dec_small m (by omega)
            have z2 := itoa_small ((E : Int) + j - 1074) (by omega) (by omega)
            obtain ⟨S1, hS1⟩ : ∃ S : ByteArray, ⟨(Lib.decDigits m).toArray⟩ = S := ⟨_, rfl⟩
            obtain ⟨S2, hS2⟩ : ∃ S : ByteArray, ⟨(Lib.itoa ((E : Int) + j - 1074)).toArray⟩ = S := ⟨_, rfl⟩
            rw [hS1] at h1 z1
            rw [hS2] at h2 z2
            have HS1 := Lib.hid hS1
            have HS2 := Lib.hid hS2
            have hT : TextIs x (sgnS x ++ S1 ++ ⟨#[112]⟩ ++ S2) := by
              refine .inr (.inr (.inr ⟨HC.out, m, E + j, by omega, ?_, by omega, by omega, ?_⟩))
              · rw [HNv.out, HMm.out, Nat.mul_assoc, ← Nat.pow_add, Nat.add_comm]
              · rw [← hS1, ← hS2, show ((E + j : Nat) : Int) - 1074 = (E : Int) + j - 1074 by omega]
            rw [HS.out] at hT
            have HT := Lib.hid hT
            clear hT
            have hwr : IntKind.i64.wrap (m : Int) = (m : Int) := by rw [IntKind.wrap_i64]; omega
            clear hS1 hS2 hdM hdE f2 f3
            go_region_with (go_at_call 43; first | (refine (h1 _).mono ?_; rintro _ w5 ⟨rfl, t5⟩; (first | have tn := Touch.of_drew t5 | have tn := t5); have bR := bR.touch tn (by simp); have tr := tr.trans tn (by simp); have c2 := bR.cell 2; have c3 := bR.cell 3; clear t5 tn) | (refine (h2 _).mono ?_; rintro _ w6 ⟨rfl, t6⟩; (first | have tn := Touch.of_drew t6 | have tn := t6); have bR := bR.touch tn (by simp); have tr := tr.trans tn (by simp); have c2 := bR.cell 2; have c3 := bR.cell 3; clear t6 tn))
            all_goals go_wp2_with fail
            all_goals go_ret
            all_goals exact ⟨_, HT.out, rfl, tr⟩
end Go.Proofs.YtibifcchmccknaaDoor
