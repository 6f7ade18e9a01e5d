/- The text of a real number is it again. -/
import Derived.Test.YtgdmiodcfdcihaaGreatDoorNumAny3
import Derived.Lib.ItoaNum
namespace Go.Proofs.YtgdmiodcfdcihaaGreatDoor
open Go.RowKit

def sgnS (x : Nat) : ByteArray := if Fl.sg x then ⟨#[45]⟩ else ⟨#[]⟩

/-- the text of a number -/
def TextIs (x : Nat) (s : ByteArray) : Prop :=
  (nanB x ∧ s = ⟨#[110, 97, 110]⟩) ∨ (Fl.rg x = 9218868437227405312 ∧ s = sgnS x ++ ⟨#[105, 110, 102]⟩) ∨ (Fl.rg x = 0 ∧ s = sgnS x ++ ⟨#[48]⟩ ++ ⟨#[112]⟩ ++ ⟨#[48]⟩) ∨
  (Fl.rg x < 9218868437227405312 ∧ ∃ m t : Nat, m % 2 = 1 ∧ Fl.Nv (Fl.rg x) = m * 2 ^ t ∧ m < 9223372036854775808 ∧ t < 4000 ∧ s = sgnS x ++ ⟨(Lib.decDigits m).toArray⟩ ++ ⟨#[112]⟩ ++ ⟨(Lib.itoa ((t : Int) - 1074)).toArray⟩)

set_option maxRecDepth 100000 in
theorem whole_ok (s : ByteArray) (n : Int) (hl : s.size ≤ 18) (h : Lib.atoi s.data.toList = some n) (h0 : 0 < s.size) (c0 : UInt8) (hc : s[0]'h0 = c0) (h48 : 48 ≤ c0.toNat) (h57 : c0.toNat ≤ 57) (many : Int) (hm : (s.size : Int) ≤ many) (w : World) :
    Calls Tryz.prog 52 #[.string s, .int .i64 many] w fun e w' => e = .returned (.tuple #[.int .i64 n, .bool true]) ∧ Touch [] w w' := by
  have HA := Lib.hid (Tryz.strconv_Atoi s n hl h w)
  have hix : ∀ W, (Instr.index 9 (.string s) (.int .i64 0)).run Tryz.prog W = .ok (.int .u8 (c0.toNat : Int)) W := fun W => by
    rw [run_index_string W _ s _ _ (by kernel_rfl)]
    simp [h0, hc]
  have d0 : decide ((s.size : Int) ≤ many) = true := decide_eq_true hm
  have d1 : decide ((c0.toNat : Int) ≥ 48) = true := decide_eq_true (by omega)
  have d2 : decide ((c0.toNat : Int) ≤ 57) = true := decide_eq_true (by omega)
  clear h hc
  go_enter Tryz.func52, Tryz.ntmps52
  go_wp2_with fail
  refine HA.out.mono ?_
  rintro _ w1 ⟨rfl, t, rfl⟩
  go_wp2_with fail
  go_quiet (fail)
  go_wp2
  go_ret2
  exact ⟨rfl, (touch_bytes w t).drewN _⟩

set_option maxRecDepth 100000 in
theorem whole_no (s : ByteArray) (hl : s.size ≤ 18) (h : Lib.atoi s.data.toList = none) (ev : Value) (many : Int) (w : World) (hv : w.cell? ⟨3, 0, none⟩ = some ev) (hev : ev = .nilIface ∨ ∃ te pe, ev = .iface te pe) :
    Calls Tryz.prog 52 #[.string s, .int .i64 many] w fun e w' => e = .returned (.tuple #[.int .i64 0, .bool false]) ∧ Touch [] w w' := by
  have HA := Lib.hid (Tryz.strconv_Atoi_err s hl h ev w hv hev)
  clear h hv hev
  go_enter Tryz.func52, Tryz.ntmps52
  go_wp2_with fail
  refine HA.out.mono ?_
  rintro _ w1 ⟨N, rfl, _, _, hb⟩
  have ht : Touch [] w w1 := Touch.of_below hb _
  clear hb HA
  go_wp2_with fail
  go_quiet (fail)
  go_wp2
  go_ret2
  exact ⟨rfl, ht.drewN _⟩

set_option maxHeartbeats 2000000 in
theorem scaled_any (m t r q0 : Nat) (hm : m < 9007199254740992) (hm0 : m ≠ 0) (hr : r < 9218868437227405312) (hv : Fl.Nv r = m * 2 ^ t) (hq0 : q0 < 9218868437227405312) (hv0 : Fl.Nv q0 = m * Fl.U) (w : World) :
    Calls Tryz.prog 55 #[.float .f64 q0, .int .i64 ((t : Int) - 1074)] w fun e w' => e = .returned (.float .f64 r) ∧ w = w' := by
  have hlog : m.log2 + t < 2098 := by
    have hM : Fl.M r ≠ 0 := by
      intro h
      rw [Fl.Nv, h, Nat.zero_mul] at hv
      rcases Nat.mul_eq_zero.1 hv.symm with h1 | h1
      · exact hm0 h1
      · exact absurd h1 (Nat.ne_of_gt (Nat.two_pow_pos _))
    have e1 := Fl.log2_mul_pow (Fl.M r) (Fl.E r) hM
    have e2 := Fl.log2_mul_pow m t hm0
    rw [← hv] at e2
    rw [show Fl.M r * 2 ^ Fl.E r = Fl.Nv r from rfl] at e1
    have h3 := (Fl.log_M r).resolve_left hM
    have := Fl.E_le hr
    omega
  have hl2 : m.log2 + 1074 < 2098 := by
    have : m.log2 < 53 := (Nat.log2_lt hm0).2 (by simpa using hm)
    omega
  have hst : ScAt m t q0 ((t : Int) - 1074) := ⟨1074, hq0, by rw [hv0, Fl.U_eq, Fl.B_eq], by omega⟩
  have hend : ∀ q, ScAt m t q 0 → q = r := by
    rintro q ⟨j, hq, hqv, hj⟩
    refine Fl.Nv_inj ?_
    rw [hqv, hv, show j = t by omega]
  have HV := Lib.hid hv
  clear hv hv0
  have ht : t < 2098 := by omega
  go_enter Tryz.func55, Tryz.ntmps55
  go_wp2_with fail
  go_loop [0, 1] (fun v i => ∃ (q : Nat) (k : Int), v = .float .f64 q ∧ i = .int .i64 k ∧ ScAt m t q k ∧ k ≤ (t : Int) ∧ (0 ≤ k ∨ (t : Int) - 1074 ≤ k)) (fun _ i => match i with | .int _ k => k.toNat | _ => 0)
  case atStart => exact ⟨q0, _, rfl, rfl, hst, by omega, by omega⟩
  case round =>
    obtain ⟨q, k, rfl, rfl, hS, hk0, hk1⟩ := hrel
    by_cases hk : 0 < k
    · obtain ⟨p, hp, hmul⟩ := sc_up hm hlog hS hk
      have hrun := fun W => run_float_arith (P := Tryz.prog) W .mul 101 .f64 q 4611686018427387904 p hmul
      clear hmul
      go_wp2_with fail
      refine ⟨⟨p, k - 1, rfl, ?_, hp, by omega, by omega⟩, ?_⟩
      · go_num
      · show (k - 1).toNat < k.toNat
        omega
    · go_wp2_with fail
      go_loop [0, 1] (fun v i => ∃ (q : Nat) (k : Int), v = .float .f64 q ∧ i = .int .i64 k ∧ ScAt m t q k ∧ k ≤ 0 ∧ (k = 0 ∨ (t : Int) - 1074 ≤ k)) (fun _ i => match i with | .int _ k => (-k).toNat | _ => 0)
      case atStart => exact ⟨q, k, rfl, rfl, hS, by omega, by omega⟩
      case round =>
        clear hS hk0 hk1 hk
        obtain ⟨q, k, rfl, rfl, hS, hk0, hk1⟩ := hrel
        by_cases hk : k < 0
        · obtain ⟨p, hp, hdiv⟩ := sc_down hm hl2 hS hk (by omega)
          have hrun := fun W => run_float_arith (P := Tryz.prog) W .quo 101 .f64 q 4611686018427387904 p hdiv
          clear hdiv
          go_wp2_with fail
          refine ⟨⟨p, k + 1, rfl, ?_, hp, by omega, by omega⟩, ?_⟩
          · go_num
          · show (-(k + 1)).toNat < (-k).toNat
            omega
        · have hk3 : k = 0 := by omega
          subst hk3
          have hqr := hend q hS
          subst hqr
          go_wp2_with fail
          go_ret
          exact ⟨rfl, rfl⟩

/- Number, at the texts that Text makes; the walk of RealBack. -/
/-! ### the texts -/
def decL (m : Nat) : List UInt8 := Lib.decDigits m

theorem digitVal_of (u : Nat) (h : u < 10) : Lib.digitVal (UInt8.ofNat (48 + u)) = some u := by
  have : u = 0 ∨ u = 1 ∨ u = 2 ∨ u = 3 ∨ u = 4 ∨ u = 5 ∨ u = 6 ∨ u = 7 ∨ u = 8 ∨ u = 9 := by omega
  rcases this with rfl | rfl | rfl | rfl | rfl | rfl | rfl | rfl | rfl | rfl <;> rfl

theorem decFrom_append (l r : List UInt8) : ∀ a, Lib.decFrom a (l ++ r) = (Lib.decFrom a l).bind fun b => Lib.decFrom b r := by
  induction l with
  | nil => intro a; rfl
  | cons x t ih =>
    intro a
    simp only [List.cons_append, Lib.decFrom]
    cases Lib.digitVal x with
    | none => rfl
    | some d => exact ih _

theorem decFrom_dec (m : Nat) : Lib.decFrom 0 (Lib.decDigits m) = some m := by
  induction m using Nat.strongRecOn with
  | ind m ih =>
    rw [Lib.decDigits]
    split
    · rename_i h
      simp only [Lib.decFrom, digitVal_of m h]
      simp
    · rename_i h
      rw [decFrom_append, ih (m / 10) (by omega)]
      simp only [Option.bind_some, Lib.decFrom, digitVal_of (m % 10) (by omega)]
      congr 1
      omega

theorem dec_digit (m : Nat) : ∀ c ∈ Lib.decDigits m, 48 ≤ c.toNat ∧ c.toNat ≤ 57 := by
  induction m using Nat.strongRecOn with
  | ind m ih =>
    have key : ∀ u, u < 10 → 48 ≤ (UInt8.ofNat (48 + u)).toNat ∧ (UInt8.ofNat (48 + u)).toNat ≤ 57 := by
      intro u h
      have := Lib.digitVal_eq (digitVal_of u h)
      exact ⟨this.1, this.2.1⟩
    rw [Lib.decDigits]
    split
    · rename_i h
      intro c hc
      rw [List.mem_singleton.1 hc]
      exact key m h
    · intro c hc
      rcases List.mem_append.1 hc with h1 | h1
      · exact ih (m / 10) (by omega) c h1
      · rw [List.mem_singleton.1 h1]
        exact key _ (by omega)

theorem dec_ne (m : Nat) : Lib.decDigits m ≠ [] := by
  rw [Lib.decDigits]
  split
  · simp
  · simp

theorem atoi_dec (m : Nat) : Lib.atoi (Lib.decDigits m) = some (m : Int) := by
  cases h : Lib.decDigits m with
  | nil => exact absurd h (dec_ne m)
  | cons b r =>
    have hd := dec_digit m b (by rw [h]; simp)
    have hf := decFrom_dec m
    rw [h] at hf
    have n1 : (b == 45) = false := by
      rw [beq_eq_false_iff_ne]
      intro e
      rw [e] at hd
      exact absurd hd.1 (by decide)
    have n2 : (b == 43) = false := by
      rw [beq_eq_false_iff_ne]
      intro e
      rw [e] at hd
      exact absurd hd.1 (by decide)
    simp only [Lib.atoi, n1, n2, Lib.decNat, List.isEmpty_cons, Bool.false_eq_true, if_false, hf]
    rfl

theorem index_one (l r : List UInt8) (c : UInt8) (h : c ∉ l) : Lib.index (l ++ c :: r) [c] = (l.length : Int) := by
  induction l with
  | nil => simp [Lib.index, List.isPrefixOf]
  | cons b t ih =>
    have hb : (c == b) = false := by rw [beq_eq_false_iff_ne]; intro e; exact h (by rw [e]; simp)
    have ht := ih (fun hc => h (List.mem_cons_of_mem _ hc))
    simp only [List.cons_append, Lib.index, List.isPrefixOf, hb, Bool.false_and, ht]
    have : ((t.length : Int) == -1) = false := by rw [beq_eq_false_iff_ne]; omega
    rw [this]
    simp

theorem cut_one (l r : List UInt8) (c : UInt8) (h : c ∉ l) : Lib.cut (l ++ c :: r) [c] = (l, r, true) := by
  unfold Lib.cut
  rw [index_one l r c h, if_pos (by omega)]
  simp

theorem prefix_yes (l : List UInt8) (c : UInt8) : Lib.trimPrefix (c :: l) [c] = l ∧ Lib.hasPrefix (c :: l) [c] = true := by
  unfold Lib.trimPrefix Lib.hasPrefix
  simp [List.isPrefixOf]

theorem prefix_no (l : List UInt8) (c : UInt8) (h : ∀ b, l.head? = some b → b ≠ c) : Lib.trimPrefix l [c] = l ∧ Lib.hasPrefix l [c] = false := by
  unfold Lib.trimPrefix Lib.hasPrefix
  cases l with
  | nil => simp [List.isPrefixOf]
  | cons b t =>
    have := h b rfl
    have hb : (c == b) = false := by rw [beq_eq_false_iff_ne]; exact fun e => this e.symm
    simp [List.isPrefixOf, hb]

/-- the parts of a text, as Number takes them -/
structure Parts (s rest hd tl tl2 : ByteArray) (sg under : Bool) (m k : Nat) : Prop where
  c1 : ∀ W, Calls Tryz.prog 50 #[.string s, .string ⟨#[45]⟩] W fun e w' => e = .returned (.tuple #[.string rest, .bool sg]) ∧ W = w'
  c2 : ∀ W, MaxIs W → Calls Tryz.prog 51 #[.string rest, .string ⟨#[112]⟩] W fun e w' => e = .returned (.tuple #[.string hd, .string tl, .bool true]) ∧ Touch [] W w'
  c3 : ∀ W, Calls Tryz.prog 50 #[.string tl, .string ⟨#[45]⟩] W fun e w' => e = .returned (.tuple #[.string tl2, .bool under]) ∧ W = w'
  c4 : ∀ W, Calls Tryz.prog 52 #[.string hd, .int .i64 16] W fun e w' => e = .returned (.tuple #[.int .i64 m, .bool true]) ∧ Touch [] W w'
  c5 : ∀ W, Calls Tryz.prog 52 #[.string tl2, .int .i64 4] W fun e w' => e = .returned (.tuple #[.int .i64 k, .bool true]) ∧ Touch [] W w'

theorem bitLen_bound {m t r : Nat} (hm0 : m ≠ 0) (hr : r < 9218868437227405312) (hv : Fl.Nv r = m * 2 ^ t) (hm : m < 18446744073709551616) : Lib.bitLen m + t ≤ 2098 := by
  have hM : Fl.M r ≠ 0 := by
    intro h
    rw [Fl.Nv, h, Nat.zero_mul] at hv
    rcases Nat.mul_eq_zero.1 hv.symm with h1 | h1
    · exact hm0 h1
    · exact absurd h1 (Nat.ne_of_gt (Nat.two_pow_pos _))
  have e1 := Fl.log2_mul_pow (Fl.M r) (Fl.E r) hM
  have e2 := Fl.log2_mul_pow m t hm0
  rw [← hv] at e2
  rw [show Fl.M r * 2 ^ Fl.E r = Fl.Nv r from rfl] at e1
  have h3 := (Fl.log_M r).resolve_left hM
  have hE := Fl.E_le hr
  have hl : m.log2 < 64 := (Nat.log2_lt hm0).2 (by simpa using hm)
  have := Lib.bitLen_le m (m.log2 + 1) (by omega) (Fl.nat_pow_log m hm0)
  omega

set_option maxHeartbeats 6400000 in
set_option maxRecDepth 100000 in
theorem number_some (s rest hd tl tl2 : ByteArray) (sg under : Bool) (m k t r : Nat) (hP : Parts s rest hd tl tl2 sg under m k) (hm : m % 2 = 1) (hm53 : m < 9007199254740992) (hr : r < 9218868437227405312) (hv : Fl.Nv r = m * 2 ^ t)
    (he : (if under then -(k : Int) else (k : Int)) = (t : Int) - 1074) (hk : k < 10000) (w : World) (hT : TzTab w) (hM : MaxIs w) :
    Calls Tryz.prog 39 #[.string s] w fun e w' => e = .returned (.tuple #[.int .i64 (madeOf (Ieee.double.word sg r)), .bool true]) ∧ Touch [] w w' := by
  have HT := Lib.hid hT
  have HM := Lib.hid hM
  have hm0 : m ≠ 0 := by omega
  obtain ⟨q0, hq0, hv0, hw0⟩ := Fl.flt_spec (m : Int) (by omega)
  rw [decide_eq_false (by omega), Fl.word_false] at hw0
  have hsc := fun W => scaled_any m t r q0 hm53 hm0 hr hv hq0 (by simpa using hv0) W
  have hbl := bitLen_bound hm0 hr hv (by omega)
  have hctz : Lib.ctz 64 m = 0 := by
    obtain ⟨n, hn, _⟩ := Lib.ctzFrom_spec 64 m (by omega) (by omega)
    unfold Lib.ctz
    rw [if_neg hm0]
    rcases Nat.eq_zero_or_pos (Lib.ctzFrom 64 m) with h | h
    · exact h
    · obtain ⟨j, hj⟩ : ∃ j, Lib.ctzFrom 64 m = j + 1 := ⟨Lib.ctzFrom 64 m - 1, by omega⟩
      rw [hj, Nat.pow_succ, Nat.mul_comm (2 ^ j) 2, Nat.mul_assoc] at hn
      omega
  have hlen := fun W => Tryz.bits_Len64 (m : Int) W (by omega) (by omega)
  rw [Int.toNat_natCast] at hlen
  obtain ⟨b, hb⟩ : ∃ b, Lib.bitLen m = b := ⟨_, rfl⟩
  rw [hb] at hlen hbl
  have hcs := fun W => copysign_any r (by omega) W
  have hword : Ieee.double.word true r = 9223372036854775808 + r := by unfold Ieee.Format.word; rw [Fl.c_sign]; rfl
  have hmade := fun W => madeR_any (Ieee.double.word sg r) (by unfold Ieee.Format.word; rw [Fl.c_sign]; split <;> omega) W
  have c1 := hP.c1
  have c2 := hP.c2
  have c3 := hP.c3
  have c4 := hP.c4
  have c5 := hP.c5
  have HV := Lib.hid hv
  clear hT hM hv hv0 hP hb
  cases under
  all_goals
    have he' : (_ : Int) = (t : Int) - 1074 := he
    clear he
    simp only [Bool.false_eq_true, if_false, if_true] at he'
    have hb2 : (t : Int) - 1074 + b ≤ 1024 := by omega
    have hb1 : -1074 ≤ (t : Int) - 1074 := by omega
    rw [← he'] at hsc hb1 hb2
    have HE := Lib.hid he'
    clear he' hbl
    go_enter Tryz.func39, Tryz.ntmps39
    go_wp2_with fail
    refine (c1 _).mono ?_
    rintro _ _ ⟨rfl, rfl⟩
    go_wp2_with fail
    refine (c2 _ HM.out).mono ?_
    rintro _ w2 ⟨rfl, t2⟩
    go_wp2_with fail
    refine (c3 _).mono ?_
    rintro _ _ ⟨rfl, rfl⟩
    go_wp2_with fail
    refine (c4 _).mono ?_
    rintro _ w3 ⟨rfl, t3⟩
    have t4 := t2.trans t3 (by simp)
    clear t2 t3
    go_wp2_with fail
    refine (c5 _).mono ?_
    rintro _ w5 ⟨rfl, t5⟩
    have t6 := t4.trans t5 (by simp)
    clear t4 t5 c1 c2 c3 c4 c5
    go_wp2_with fail
    refine (tz_any m (by omega) hm0 _ (HT.out.touch t6)).mono ?_
    rintro _ _ ⟨rfl, rfl⟩
    rw [hctz]
    go_wp2_with fail
    refine (hlen _).mono ?_
    rintro _ _ ⟨rfl, rfl⟩
    go_wp2_with fail
    refine (hsc _).mono ?_
    rintro _ _ ⟨rfl, rfl⟩
    rcases sg with _ | _
    · rw [Fl.word_false] at hmade
      go_wp2_with fail
      refine (hmade _).mono ?_
      rintro _ _ ⟨rfl, rfl⟩
      go_wp2_with fail
      go_ret2
      exact ⟨ret2 (vint (by rw [Fl.word_false])) rfl, t6⟩
    · rw [hword] at hmade
      go_wp2_with fail
      refine (hcs _).mono ?_
      rintro _ _ ⟨rfl, rfl⟩
      go_wp2_with fail
      refine (hmade _).mono ?_
      rintro _ _ ⟨rfl, rfl⟩
      go_wp2_with fail
      go_ret2
      exact ⟨ret2 (vint (by rw [hword])) rfl, t6⟩

/- Number at 0p0 and at what is no number; the parts of a text that Text makes. -/
set_option maxHeartbeats 6400000 in
set_option maxRecDepth 100000 in
theorem number_zero (s rest hd tl tl2 : ByteArray) (sg : Bool) (hP : Parts s rest hd tl tl2 sg false 0 0) (w : World) (hM : MaxIs w) :
    Calls Tryz.prog 39 #[.string s] w fun e w' => e = .returned (.tuple #[.int .i64 (madeOf (Ieee.double.word sg 0)), .bool true]) ∧ Touch [] w w' := by
  have hcs := fun W => copysign_any 0 (by omega) W
  have hword : Ieee.double.word true 0 = 9223372036854775808 := by decide
  have hmade := fun W => madeR_any (Ieee.double.word sg 0) (by cases sg <;> decide) W
  have c1 := hP.c1
  have c2 := fun W => hP.c2 W
  have c3 := hP.c3
  have c4 := hP.c4
  have c5 := hP.c5
  clear hP
  rw [Int.natCast_zero] at c4 c5
  go_enter Tryz.func39, Tryz.ntmps39
  go_wp2_with fail
  refine (c1 _).mono ?_
  rintro _ _ ⟨rfl, rfl⟩
  go_wp2_with fail
  refine (c2 _ hM).mono ?_
  rintro _ w2 ⟨rfl, t2⟩
  go_wp2_with fail
  refine (c3 _).mono ?_
  rintro _ _ ⟨rfl, rfl⟩
  go_wp2_with fail
  refine (c4 _).mono ?_
  rintro _ w3 ⟨rfl, t3⟩
  have t4 := t2.trans t3 (by simp)
  clear t2 t3
  go_wp2_with fail
  refine (c5 _).mono ?_
  rintro _ w5 ⟨rfl, t5⟩
  have t6 := t4.trans t5 (by simp)
  clear t4 t5 c1 c2 c3 c4 c5
  rcases sg with _ | _
  · rw [Fl.word_false] at hmade
    go_wp2_with fail
    refine (hmade _).mono ?_
    rintro _ _ ⟨rfl, rfl⟩
    go_wp2_with fail
    go_ret2
    exact ⟨ret2 (vint (by rw [Fl.word_false])) rfl, t6⟩
  · rw [hword] at hmade
    go_wp2_with fail
    refine (hcs _).mono ?_
    rintro _ _ ⟨rfl, rfl⟩
    go_wp2_with fail
    refine (hmade _).mono ?_
    rintro _ _ ⟨rfl, rfl⟩
    go_wp2_with fail
    go_ret2
    exact ⟨ret2 (vint (by rw [hword])) rfl, t6⟩

/-- a text without the letter between -/
structure NoParts (s rest tl2 : ByteArray) (sg under : Bool) : Prop where
  c1 : ∀ W, Calls Tryz.prog 50 #[.string s, .string ⟨#[45]⟩] W fun e w' => e = .returned (.tuple #[.string rest, .bool sg]) ∧ W = w'
  c2 : ∀ W, MaxIs W → Calls Tryz.prog 51 #[.string rest, .string ⟨#[112]⟩] W fun e w' => e = .returned (.tuple #[.string rest, .string ⟨#[]⟩, .bool false]) ∧ Touch [] W w'
  c3 : ∀ W, Calls Tryz.prog 50 #[.string ⟨#[]⟩, .string ⟨#[45]⟩] W fun e w' => e = .returned (.tuple #[.string tl2, .bool under]) ∧ W = w'
  c4 : ∀ W, (∃ ev, W.cell? ⟨3, 0, none⟩ = some ev ∧ (ev = .nilIface ∨ ∃ te pe, ev = .iface te pe)) → Calls Tryz.prog 52 #[.string rest, .int .i64 16] W fun e w' => e = .returned (.tuple #[.int .i64 0, .bool false]) ∧ Touch [] W w'
  c5 : ∀ W, (∃ ev, W.cell? ⟨3, 0, none⟩ = some ev ∧ (ev = .nilIface ∨ ∃ te pe, ev = .iface te pe)) → Calls Tryz.prog 52 #[.string tl2, .int .i64 4] W fun e w' => e = .returned (.tuple #[.int .i64 0, .bool false]) ∧ Touch [] W w'

set_option maxHeartbeats 6400000 in
set_option maxRecDepth 100000 in
theorem number_none (s rest tl2 : ByteArray) (sg under : Bool) (hP : NoParts s rest tl2 sg under) (w : World) (hM : MaxIs w) (hE : ErrIs w) :
    Calls Tryz.prog 39 #[.string s] w fun e w' => e = .returned (.tuple #[.int .i64 0, .bool false]) ∧ Touch [] w w' := by
  have HM := Lib.hid hM
  have HE := Lib.hid hE
  have c1 := hP.c1
  have c2 := fun W => hP.c2 W
  have c3 := hP.c3
  have c4 : ∀ W, ErrIs W → Calls _ _ _ W _ := hP.c4
  have c5 : ∀ W, ErrIs W → Calls _ _ _ W _ := hP.c5
  clear hP hM hE
  go_enter Tryz.func39, Tryz.ntmps39
  go_wp2_with fail
  refine (c1 _).mono ?_
  rintro _ _ ⟨rfl, rfl⟩
  go_wp2_with fail
  refine (c2 _ HM.out).mono ?_
  rintro _ w2 ⟨rfl, t2⟩
  go_wp2_with fail
  refine (c3 _).mono ?_
  rintro _ _ ⟨rfl, rfl⟩
  go_wp2_with fail
  refine (c4 _ (HE.out.touch t2)).mono ?_
  rintro _ w3 ⟨rfl, t3⟩
  have t4 := t2.trans t3 (by simp)
  clear t2 t3
  go_wp2_with fail
  refine (c5 _ (HE.out.touch t4)).mono ?_
  rintro _ w5 ⟨rfl, t5⟩
  have t6 := t4.trans t5 (by simp)
  clear t4 t5 c1 c2 c3 c4 c5
  go_wp2_with fail
  go_ret2
  exact ⟨rfl, t6⟩

/- The parts of the texts that Text makes. -/
theorem dec_len : ∀ (k m : Nat), 0 < k → m < 10 ^ k → (Lib.decDigits m).length ≤ k
  | 0, _, h, _ => absurd h (Nat.lt_irrefl 0)
  | k + 1, m, _, h => by
    rw [Lib.decDigits]
    split
    · simp
    · rename_i h10
      rw [List.length_append]
      rcases k with _ | k
      · rw [Nat.zero_add, Nat.pow_one] at h; omega
      · have := dec_len (k + 1) (m / 10) (by omega) (by rw [Nat.pow_succ] at h; omega)
        simp only [List.length_cons, List.length_nil]
        omega

theorem odd_le {m t r : Nat} (hm : m % 2 = 1) (hv : Fl.Nv r = m * 2 ^ t) : m < 9007199254740992 := by
  have hM := Fl.M_lt r
  unfold Fl.Nv at hv
  rcases Nat.lt_or_ge t (Fl.E r) with h | h
  · obtain ⟨d, hd⟩ : ∃ d, Fl.E r = (d + 1) + t := ⟨Fl.E r - t - 1, by omega⟩
    rw [hd, Nat.pow_add, ← Nat.mul_assoc] at hv
    have h2 := Nat.eq_of_mul_eq_mul_right (Nat.two_pow_pos t) hv
    rw [Nat.pow_succ, ← Nat.mul_assoc] at h2
    omega
  · obtain ⟨d, hd⟩ : ∃ d, t = d + Fl.E r := ⟨t - Fl.E r, by omega⟩
    rw [hd, Nat.pow_add, ← Nat.mul_assoc] at hv
    have h2 := Nat.eq_of_mul_eq_mul_right (Nat.two_pow_pos (Fl.E r)) hv
    have h3 : m * 1 ≤ m * 2 ^ d := Nat.mul_le_mul_left _ (Nat.two_pow_pos d)
    omega

theorem str_of (l : List UInt8) : (⟨l.toArray⟩ : ByteArray).data.toList = l := by simp

theorem size_of (l : List UInt8) : (⟨l.toArray⟩ : ByteArray).size = l.length := by
  show l.toArray.size = _
  rw [List.size_toArray]

theorem whole_dec (m : Nat) (k : Nat) (hk : 0 < k) (hk2 : k ≤ 16) (hm : m < 10 ^ k) (W : World) :
    Calls Tryz.prog 52 #[.string ⟨(Lib.decDigits m).toArray⟩, .int .i64 k] W fun e w' => e = .returned (.tuple #[.int .i64 m, .bool true]) ∧ Touch [] W w' := by
  have hl := dec_len k m hk hm
  have hs := size_of (Lib.decDigits m)
  have h0 : 0 < (⟨(Lib.decDigits m).toArray⟩ : ByteArray).size := by rw [hs]; exact List.length_pos_iff.2 (dec_ne m)
  have hc := dec_digit m ((⟨(Lib.decDigits m).toArray⟩ : ByteArray)[0]'h0) (by
    show (Lib.decDigits m).toArray[0]'_ ∈ _
    rw [List.getElem_toArray]
    exact List.getElem_mem _)
  exact whole_ok _ (m : Int) (by rw [hs]; omega) (by rw [str_of]; exact atoi_dec m) h0 _ rfl hc.1 hc.2 k (by rw [hs]; omega) W

theorem no_p (m : Nat) : (112 : UInt8) ∉ Lib.decDigits m := by
  intro h
  have := dec_digit m _ h
  exact absurd this.2 (by decide)

theorem no_sign (m : Nat) (r : List UInt8) : ∀ b, (Lib.decDigits m ++ r).head? = some b → b ≠ 45 := by
  intro b hb
  cases h : Lib.decDigits m with
  | nil => exact absurd h (dec_ne m)
  | cons c t =>
    rw [h] at hb
    have e : c = b := by simpa using hb
    have := dec_digit m c (by rw [h]; simp)
    intro h2
    rw [e, h2] at this
    exact absurd this.1 (by decide)

/-- THE PARTS of sign, digits, p, digits -/
theorem parts_of (s : ByteArray) (sg : Bool) (m : Nat) (e : Int) (hm : m < 10 ^ 16) (he : e.natAbs < 10 ^ 4) (hs : s.data.toList = (if sg then [45] else []) ++ (Lib.decDigits m ++ 112 :: Lib.itoa e)) :
    Parts s ⟨(Lib.decDigits m ++ 112 :: Lib.itoa e).toArray⟩ ⟨(Lib.decDigits m).toArray⟩ ⟨(Lib.itoa e).toArray⟩ ⟨(Lib.decDigits e.natAbs).toArray⟩ sg (decide (e < 0)) m e.natAbs where
  c1 W := by
    have h := Tryz.strings_CutPrefix s ⟨#[45]⟩ W
    have hp : Lib.trimPrefix s.data.toList [45] = Lib.decDigits m ++ 112 :: Lib.itoa e ∧ Lib.hasPrefix s.data.toList [45] = sg := by
      rw [hs]
      cases sg
      · exact prefix_no _ 45 (no_sign m _)
      · exact prefix_yes _ 45
    rw [show (⟨#[45]⟩ : ByteArray).data.toList = [45] from rfl, hp.1, hp.2] at h
    exact h.mono fun _ _ ⟨h1, h2⟩ => ⟨h1, h2.symm⟩
  c2 W hM := by
    obtain ⟨mx, hmx⟩ := hM
    have hi : (Lib.itoa e).length ≤ 5 := by
      have := dec_len 4 e.natAbs (by omega) he
      unfold Lib.itoa
      split
      · rw [List.length_cons]; omega
      · rw [show e.toNat = e.natAbs by omega]; omega
    have hd := dec_len 16 m (by omega) hm
    have h := Tryz.strings_Cut ⟨(Lib.decDigits m ++ 112 :: Lib.itoa e).toArray⟩ ⟨#[112]⟩ mx W (by rw [size_of, List.length_append, List.length_cons]; omega) hmx
    rw [str_of, show (⟨#[112]⟩ : ByteArray).data.toList = [112] from rfl, cut_one _ _ _ (no_p m)] at h
    exact h.mono fun _ _ ⟨h1, n, h2⟩ => ⟨h1, h2 ▸ (Touch.refl _ _).drewN _⟩
  c3 W := by
    have h := Tryz.strings_CutPrefix ⟨(Lib.itoa e).toArray⟩ ⟨#[45]⟩ W
    have hp : Lib.trimPrefix (Lib.itoa e) [45] = Lib.decDigits e.natAbs ∧ Lib.hasPrefix (Lib.itoa e) [45] = decide (e < 0) := by
      unfold Lib.itoa
      by_cases hn : e < 0
      · rw [if_pos hn, decide_eq_true hn]
        exact prefix_yes _ 45
      · rw [if_neg hn, decide_eq_false hn, show e.toNat = e.natAbs by omega]
        have := no_sign e.natAbs []
        rw [List.append_nil] at this
        exact prefix_no _ 45 this
    rw [str_of, show (⟨#[45]⟩ : ByteArray).data.toList = [45] from rfl, hp.1, hp.2] at h
    exact h.mono fun _ _ ⟨h1, h2⟩ => ⟨h1, h2.symm⟩
  c4 W := whole_dec m 16 (by omega) (by omega) hm W
  c5 W := whole_dec e.natAbs 4 (by omega) (by omega) he W

/- The walk of RealBack. -/
theorem noparts_of (s : ByteArray) (sg : Bool) (l : List UInt8) (hl : l.length ≤ 18) (h1 : Lib.trimPrefix s.data.toList [45] = l) (h2 : Lib.hasPrefix s.data.toList [45] = sg) (h3 : Lib.cut l [112] = (l, [], false)) (h4 : Lib.atoi l = none) :
    NoParts s ⟨l.toArray⟩ ⟨#[]⟩ sg false where
  c1 W := by
    have h := Tryz.strings_CutPrefix s ⟨#[45]⟩ W
    rw [show (⟨#[45]⟩ : ByteArray).data.toList = [45] from rfl, h1, h2] at h
    exact h.mono fun _ _ ⟨h1, h2⟩ => ⟨h1, h2.symm⟩
  c2 W hM := by
    obtain ⟨mx, hmx⟩ := hM
    have h := Tryz.strings_Cut ⟨l.toArray⟩ ⟨#[112]⟩ mx W (by rw [size_of]; omega) hmx
    rw [str_of, show (⟨#[112]⟩ : ByteArray).data.toList = [112] from rfl, h3] at h
    exact h.mono fun _ _ ⟨h1, n, h2⟩ => ⟨h1, h2 ▸ (Touch.refl _ _).drewN _⟩
  c3 W := by
    have h := Tryz.strings_CutPrefix ⟨#[]⟩ ⟨#[45]⟩ W
    exact h.mono fun _ _ ⟨h1, h2⟩ => ⟨h1, h2.symm⟩
  c4 W hE := by
    obtain ⟨ev, hv, hev⟩ := hE
    exact whole_no _ (by rw [size_of]; exact hl) (by rw [str_of]; exact h4) ev 16 W hv hev
  c5 W hE := by
    obtain ⟨ev, hv, hev⟩ := hE
    exact whole_no ⟨#[]⟩ (by decide) rfl ev 4 W hv hev

theorem nan_parts : NoParts ⟨#[110, 97, 110]⟩ ⟨#[110, 97, 110]⟩ ⟨#[]⟩ false false := noparts_of _ _ [110, 97, 110] (by decide) (by decide) (by decide) (by decide) (by decide)

theorem inf_parts : NoParts ⟨#[105, 110, 102]⟩ ⟨#[105, 110, 102]⟩ ⟨#[]⟩ false false := noparts_of _ _ [105, 110, 102] (by decide) (by decide) (by decide) (by decide) (by decide)

theorem neg_parts : NoParts ⟨#[45, 105, 110, 102]⟩ ⟨#[105, 110, 102]⟩ ⟨#[]⟩ true false := noparts_of _ _ [105, 110, 102] (by decide) (by decide) (by decide) (by decide) (by decide)

/-- what Number tells of the text of f -/
def BackIs (f : Int) (s : ByteArray) : Prop :=
  ((s = ⟨#[110, 97, 110]⟩ ∨ s = ⟨#[105, 110, 102]⟩ ∨ s = ⟨#[45, 105, 110, 102]⟩) ∧ ∀ w, MaxIs w → ErrIs w → Calls Tryz.prog 39 #[.string s] w fun e w' => e = .returned (.tuple #[.int .i64 0, .bool false]) ∧ Touch [] w w') ∨
  ((112 : UInt8) ∈ s.data.toList ∧ ∀ w, TzTab w → MaxIs w → Calls Tryz.prog 39 #[.string s] w fun e w' => e = .returned (.tuple #[.int .i64 f, .bool true]) ∧ Touch [] w w')

theorem sgn_list (x : Nat) : (sgnS x).data.toList = if Fl.sg x then [45] else [] := by
  unfold sgnS
  cases Fl.sg x <;> rfl

theorem back_is (f : Int) (f0 : -9223372036854775808 ≤ f) (f1 : f ≤ 9223372036854775807) (s : ByteArray) (h : TextIs (bitsOf f) s) : BackIs f s := by
  have hlt := bitsOf_lt f
  have hback := cellOf_bitsOf f f0 f1
  obtain ⟨x, hx⟩ : ∃ x, bitsOf f = x := ⟨_, rfl⟩
  rw [hx] at h hlt hback
  have hmade : ∀ r, r = Fl.rg x → r ≤ 9218868437227405312 → madeOf (Ieee.double.word (Fl.sg x) r) = f := by
    intro r hr hle
    rw [hr, Fl.word_of x hlt]
    unfold madeOf
    rw [if_neg (by unfold nanB; omega), hback]
  rcases h with ⟨_, rfl⟩ | ⟨_, rfl⟩ | ⟨h, rfl⟩ | ⟨hf, m, t, h1, h2, _, _, rfl⟩
  · exact .inl ⟨.inl rfl, fun w hM hE => number_none _ _ _ _ _ nan_parts w hM hE⟩
  · cases hs : Fl.sg x
    · have e : sgnS x ++ ⟨#[105, 110, 102]⟩ = ⟨#[105, 110, 102]⟩ := by unfold sgnS; rw [hs]; rfl
      rw [e]
      exact .inl ⟨.inr (.inl rfl), fun w hM hE => number_none _ _ _ _ _ inf_parts w hM hE⟩
    · have e : sgnS x ++ ⟨#[105, 110, 102]⟩ = ⟨#[45, 105, 110, 102]⟩ := by unfold sgnS; rw [hs]; rfl
      rw [e]
      exact .inl ⟨.inr (.inr rfl), fun w hM hE => number_none _ _ _ _ _ neg_parts w hM hE⟩
  · refine .inr ⟨by simp [ByteArray.data_append], fun w hT hM => ?_⟩
    have hp := parts_of (sgnS x ++ ⟨#[48]⟩ ++ ⟨#[112]⟩ ++ ⟨#[48]⟩) (Fl.sg x) 0 0 (by decide) (by decide) (by
      simp only [ByteArray.data_append, Array.toList_append, sgn_list]
      have e1 : Lib.decDigits 0 = [48] := by decide +kernel
      have e2 : Lib.itoa 0 = [48] := by decide +kernel
      rw [e1, e2]
      simp)
    have hn := number_zero _ _ _ _ _ _ hp w hM
    rw [hmade 0 h.symm (by omega)] at hn
    exact hn
  · refine .inr ⟨by simp [ByteArray.data_append], fun w hT hM => ?_⟩
    have hE := Fl.E_le hf
    have hm53 := odd_le h1 h2
    have ht : t < 2099 := by
      have := bitLen_bound (by omega) hf h2 (by omega)
      omega
    have hp := parts_of (sgnS x ++ ⟨(Lib.decDigits m).toArray⟩ ++ ⟨#[112]⟩ ++ ⟨(Lib.itoa ((t : Int) - 1074)).toArray⟩) (Fl.sg x) m ((t : Int) - 1074) (by omega) (by omega) (by
      simp only [ByteArray.data_append, Array.toList_append, sgn_list]
      simp)
    have hn := number_some _ _ _ _ _ _ _ m _ t (Fl.rg x) hp h1 hm53 hf h2 (by
      by_cases h : (t : Int) - 1074 < 0
      · rw [decide_eq_true h, if_pos rfl]; omega
      · rw [decide_eq_false h, if_neg (by simp)]; omega) (by omega) w hT hM
    rw [hmade _ rfl (by omega)] at hn
    exact hn

end Go.Proofs.YtgdmiodcfdcihaaGreatDoor
