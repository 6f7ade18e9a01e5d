/- The document's examples hold; what is none; the laws of order. -/
import Derived.Test.YtibifcchmccknaaDoorReal4
namespace Go.Proofs.YtibifcchmccknaaDoor
open Go.RowKit

theorem TzTab.touch {w w' : World} (h : TzTab w) (ht : Touch [] w w') : TzTab w' := by
  intro j hj
  have hc := h j hj
  have hlt : 1 < w.heap.size := by
    rcases Nat.lt_or_ge 1 w.heap.size with h' | h'
    · exact h'
    · rw [World.cell?] at hc
      simp [Array.getElem?_eq_none h'] at hc
  rw [ht.cell (p := ⟨1, j, none⟩) hlt (by simp)]
  exact hc
theorem odd_unique {m t n s : Nat} (hm : m % 2 = 1) (hn : n % 2 = 1) (h : m * 2 ^ t = n * 2 ^ s) : m = n ∧ t = s := by
  have key : ∀ {m t n s : Nat}, m % 2 = 1 → n % 2 = 1 → t ≤ s → m * 2 ^ t = n * 2 ^ s → m = n ∧ t = s := by
    intro m t n s hm hn hle h
    obtain ⟨d, rfl⟩ : ∃ d, s = t + d := ⟨s - t, by omega⟩
    rw [Nat.pow_add, Nat.mul_comm (2 ^ t), ← Nat.mul_assoc] at h
    have h2 := Nat.eq_of_mul_eq_mul_right (Nat.two_pow_pos t) h
    rcases d with _ | d
    · rw [Nat.pow_zero, Nat.mul_one] at h2
      exact ⟨h2, rfl⟩
    · rw [Nat.pow_succ, ← Nat.mul_assoc] at h2
      omega
  rcases Nat.le_total t s with h1 | h1
  · exact key hm hn h1 h
  · have := key hn hm h1 h.symm
    exact ⟨this.1.symm, this.2.symm⟩

theorem text_quarter {s : ByteArray} (h : TextIs 13821547256400052224 s) : s = ⟨#[45, 49, 112, 45, 50]⟩ := by
  have er : Fl.rg 13821547256400052224 = 4598175219545276416 := by decide
  have hn : ¬ nanB 13821547256400052224 := by unfold nanB; rw [er]; decide
  rcases h with ⟨h, _⟩ | ⟨h, _⟩ | ⟨h, _⟩ | ⟨_, m, t, h1, h2, _, _, rfl⟩
  · exact absurd h hn
  · rw [er] at h; exact absurd h (by decide)
  · rw [er] at h; exact absurd h (by decide)
  · obtain ⟨k, hk, hk2⟩ : ∃ k, Fl.E 4598175219545276416 = k ∧ k = 1020 := ⟨1020, by decide, rfl⟩
    have e1 : Fl.Nv 4598175219545276416 = 1 * 2 ^ (52 + k) := by
      rw [Fl.Nv, show Fl.M 4598175219545276416 = 2 ^ 52 by decide, hk, ← Nat.pow_add, Nat.one_mul]
    rw [er, e1] at h2
    obtain ⟨rfl, rfl⟩ := odd_unique (by decide) h1 h2
    rw [hk2]
    exact str_ext (by decide +kernel)
theorem text_quarter_eq : bitsOf (-4625196817309499392) = 13821547256400052224 := by decide
theorem of_great : madeOf (floatOfInt .f64 9007199254740993) = 4845873199050653696 ∧ madeOf (floatOfInt .f64 9007199254740992) = 4845873199050653696 := by decide +kernel

set_option maxHeartbeats 6400000 in
set_option maxRecDepth 100000 in
theorem shown_any (w : World) (hT : TzTab w) (hP : PowTab w) : Calls Tryd.prog 8 #[] w fun e w' => e = .returned (.bool true) ∧ Touch [] w w' := by
  have HT := Lib.hid hT
  have HP := Lib.hid hP
  clear hT hP
  go_enter Tryd.func8, Tryd.ntmps8
  go_wp2_with fail
  refine (of_any 1 _).mono ?_
  rintro _ _ ⟨rfl, rfl⟩
  go_wp2_with fail
  refine (of_any (-4) _).mono ?_
  rintro _ _ ⟨rfl, rfl⟩
  go_wp2_with fail
  refine (two_div _ _ _).mono ?_
  rintro _ w1 ⟨rfl, ht1⟩
  have e1 : resOf (floatBits .quo .f64 (bitsOf (madeOf (floatOfInt .f64 1))) (bitsOf (madeOf (floatOfInt .f64 (-4))))) = -4625196817309499392 := by decide +kernel
  rw [e1]
  clear e1
  go_wp2_with fail
  refine (Text_any _ _ (HT.out.touch ht1) (tab_touch HP.out ht1)).mono ?_
  rintro _ w2 ⟨s, hs, rfl, ht2⟩
  rw [text_quarter_eq] at hs
  have hs2 := text_quarter hs
  subst hs2
  have ht3 := ht1.trans ht2 (by simp)
  have HG := Lib.hid of_great
  clear hs ht1 ht2
  go_wp2_with fail
  refine (of_any 9007199254740993 _).mono ?_
  rintro _ _ ⟨rfl, rfl⟩
  rw [HG.out.1]
  go_wp2_with fail
  refine (of_any 9007199254740992 _).mono ?_
  rintro _ _ ⟨rfl, rfl⟩
  rw [HG.out.2]
  go_wp2_with fail
  go_ret
  exact ⟨rfl, ht3⟩

theorem nan_or (x : Nat) : nanB x ∨ Fl.rg x ≤ 9218868437227405312 := by unfold nanB; omega
theorem text_nan {x : Nat} {s : ByteArray} (h : TextIs x s) : (s = ⟨#[110, 97, 110]⟩) = nanB x := by
  refine propext ⟨fun hs => ?_, fun hn => ?_⟩
  · subst hs
    have hm : ∀ {a b : ByteArray} (c : UInt8), c ∈ b.data.toList → c ∈ (a ++ b).data.toList := by
      intro a b c h
      rw [ByteArray.data_append, Array.toList_append]
      exact List.mem_append_right _ h
    have hl : ∀ {a b : ByteArray} (c : UInt8), c ∈ a.data.toList → c ∈ (a ++ b).data.toList := by
      intro a b c h
      rw [ByteArray.data_append, Array.toList_append]
      exact List.mem_append_left _ h
    rcases h with ⟨h, _⟩ | ⟨_, h⟩ | ⟨_, h⟩ | ⟨_, m, t, _, _, _, _, h⟩
    · exact h
    · have h1 : (105 : UInt8) ∈ (⟨#[110, 97, 110]⟩ : ByteArray).data.toList := by rw [h]; exact hm _ (by simp)
      exact absurd h1 (by decide)
    · have h1 : (48 : UInt8) ∈ (⟨#[110, 97, 110]⟩ : ByteArray).data.toList := by rw [h]; exact hm _ (by simp)
      exact absurd h1 (by decide)
    · have h1 : (112 : UInt8) ∈ (⟨#[110, 97, 110]⟩ : ByteArray).data.toList := by rw [h]; exact hl _ (hm _ (by simp))
      exact absurd h1 (by decide)
  · rcases h with ⟨_, h⟩ | ⟨h, _⟩ | ⟨h, _⟩ | ⟨h, _⟩
    · exact h
    all_goals (unfold nanB at hn; omega)

theorem none_any (a : Int) (w : World) (hT : TzTab w) (hP : PowTab w) : Calls Tryd.prog 11 #[.int .i64 a] w fun e w' => e = .returned (.bool (decide (nanB (bitsOf a)))) ∧ Touch [] w w' := by
  have HT := Lib.hid hT
  have HP := Lib.hid hP
  clear hT hP
  go_enter Tryd.func11, Tryd.ntmps11
  go_wp2_with fail
  refine (Text_any a _ HT.out HP.out).mono ?_
  rintro _ w1 ⟨s, hs, rfl, ht⟩
  have hn := text_nan hs
  have hq : (s.toList == [110, 97, 110]) = decide (nanB (bitsOf a)) := by
    by_cases h : nanB (bitsOf a)
    · rw [decide_eq_true h]
      rw [← hn] at h
      rw [h, ByteArray.toList_eq]
      rfl
    · rw [decide_eq_false h]
      refine beq_eq_false_iff_ne.2 fun h2 => h ?_
      rw [← hn]
      exact str_ext (by rw [ByteArray.toList_eq] at h2; exact h2)
  clear hs hn
  go_wp2_with fail
  go_ret
  exact ⟨rfl, ht⟩

/-- the law's own short word for what is done to two -/
theorem orders_two (k a b c : Int) (w : World) (h : Calls Tryd.prog 10 #[.int .i64 k, .int .i64 a, .int .i64 b] w fun e w' => e = .returned (.tuple #[.int .i64 c, .int .i64 0]) ∧ Touch [] w w') :
    Calls Tryd.prog 9 #[.int .i64 k, .int .i64 a, .int .i64 b] w fun e w' => e = .returned (.int .i64 c) ∧ Touch [] w w' := by
  have H := Lib.hid h
  clear h
  go_enter Tryd.func9, Tryd.ntmps9
  go_wp2_with fail
  refine H.out.mono ?_
  rintro _ w1 ⟨rfl, ht⟩
  go_wp2_with fail
  go_ret
  exact ⟨rfl, ht⟩

/-- what the six tell -/
def lessC (a b : Int) : Int := truthC (Ieee.double.order (bitsOf a) (bitsOf b) == some .lt)
def equalC (a b : Int) : Int := truthC (Ieee.double.order (bitsOf a) (bitsOf b) == some .eq)
def minC (a b : Int) : Int := resOf (minOf (bitsOf a) (bitsOf b))
def maxC (a b : Int) : Int := resOf (maxOf (bitsOf a) (bitsOf b))
theorem orders_less (a b : Int) (w : World) : Calls Tryd.prog 9 #[.int .i64 9, .int .i64 a, .int .i64 b] w fun e w' => e = .returned (.int .i64 (lessC a b)) ∧ Touch [] w w' := orders_two 9 a b (lessC a b) w ((two_less a b w).mono fun _ _ ⟨h1, h2⟩ => ⟨h1, h2 ▸ Touch.refl _ _⟩)
theorem orders_equal (a b : Int) (w : World) : Calls Tryd.prog 9 #[.int .i64 10, .int .i64 a, .int .i64 b] w fun e w' => e = .returned (.int .i64 (equalC a b)) ∧ Touch [] w w' := orders_two 10 a b (equalC a b) w ((two_equal a b w).mono fun _ _ ⟨h1, h2⟩ => ⟨h1, h2 ▸ Touch.refl _ _⟩)
theorem orders_min (a b : Int) (w : World) : Calls Tryd.prog 9 #[.int .i64 7, .int .i64 a, .int .i64 b] w fun e w' => e = .returned (.int .i64 (minC a b)) ∧ Touch [] w w' := orders_two 7 a b (minC a b) w (two_min a b w)
theorem orders_max (a b : Int) (w : World) : Calls Tryd.prog 9 #[.int .i64 8, .int .i64 a, .int .i64 b] w fun e w' => e = .returned (.int .i64 (maxC a b)) ∧ Touch [] w w' := orders_two 8 a b (maxC a b) w (two_max a b w)

/-- THE PLAIN LAW -/
theorem law_none {a b : Int} (h : nanB (bitsOf a) ∨ nanB (bitsOf b)) : lessC a b = 0 ∧ lessC b a = 0 ∧ equalC a b = 0 ∧ minC a b = 9221120237041090560 ∧ maxC a b = 9221120237041090560 := by
  have h1 : Ieee.double.order (bitsOf a) (bitsOf b) = none := Fl.order_nan h
  have h2 : Ieee.double.order (bitsOf b) (bitsOf a) = none := Fl.order_nan h.symm
  unfold lessC equalC minC maxC minOf maxOf
  rw [h1, h2]
  exact ⟨rfl, rfl, rfl, rfl, rfl⟩
theorem law_num {a b : Int} (a0 : -9223372036854775808 ≤ a) (a1 : a ≤ 9223372036854775807) (b0 : -9223372036854775808 ≤ b) (b1 : b ≤ 9223372036854775807) (ha : ¬ nanB (bitsOf a)) (hb : ¬ nanB (bitsOf b)) :
    lessC a b + lessC b a + equalC a b = -1 ∧ ((minC a b = a ∧ maxC a b = b) ∨ (minC a b = b ∧ maxC a b = a)) ∧ lessC (maxC a b) (minC a b) = 0 ∧ equalC a a = -1 ∧ -1 ≤ lessC a b ∧ lessC a b ≤ 0 ∧ -1 ≤ lessC b a ∧ lessC b a ≤ 0 ∧ -1 ≤ equalC a b ∧ equalC a b ≤ 0 := by
  have ma : madeOf (bitsOf a) = a := by unfold madeOf; rw [if_neg ha, cellOf_bitsOf a a0 a1]
  have mb : madeOf (bitsOf b) = b := by unfold madeOf; rw [if_neg hb, cellOf_bitsOf b b0 b1]
  have ra : Fl.rg (bitsOf a) ≤ 9218868437227405312 := by unfold nanB at ha; omega
  have rb : Fl.rg (bitsOf b) ≤ 9218868437227405312 := by unfold nanB at hb; omega
  have oab := Fl.order_num ra rb
  have oba := Fl.order_num rb ra
  have oaa := Fl.order_num ra ra
  rw [Int.compare_eq_eq.2 rfl] at oaa
  have eaa : equalC a a = -1 := by unfold equalC; rw [oaa]; rfl
  rcases Int.lt_trichotomy (Fl.Zv (bitsOf a)) (Fl.Zv (bitsOf b)) with h | h | h
  · rw [Int.compare_eq_lt.2 h] at oab
    rw [Int.compare_eq_gt.2 h] at oba
    have e1 : lessC a b = -1 := by unfold lessC; rw [oab]; rfl
    have e2 : lessC b a = 0 := by unfold lessC; rw [oba]; rfl
    have e3 : equalC a b = 0 := by unfold equalC; rw [oab]; rfl
    have e4 : minC a b = a := by unfold minC minOf; rw [oab]; exact ma
    have e5 : maxC a b = b := by unfold maxC maxOf; rw [oab]; exact mb
    rw [e1, e2, e3, e4, e5, e2]
    exact ⟨rfl, .inl ⟨rfl, rfl⟩, rfl, eaa, by omega, by omega, by omega, by omega, by omega, by omega⟩
  · rw [Int.compare_eq_eq.2 h] at oab
    rw [Int.compare_eq_eq.2 h.symm] at oba
    have e1 : lessC a b = 0 := by unfold lessC; rw [oab]; rfl
    have e2 : lessC b a = 0 := by unfold lessC; rw [oba]; rfl
    have e3 : equalC a b = -1 := by unfold equalC; rw [oab]; rfl
    have e4 : minC a b = if Fl.sg (bitsOf a) then a else b := by
      unfold minC minOf; rw [oab]
      show madeOf (if Fl.sg (bitsOf a) then bitsOf a else bitsOf b) = _
      split
      · exact ma
      · exact mb
    have e5 : maxC a b = if Fl.sg (bitsOf a) then b else a := by
      unfold maxC maxOf; rw [oab]
      show madeOf (if Fl.sg (bitsOf a) then bitsOf b else bitsOf a) = _
      split
      · exact mb
      · exact ma
    rw [e1, e2, e3, e4, e5]
    cases Fl.sg (bitsOf a)
    · exact ⟨rfl, .inr ⟨rfl, rfl⟩, e1, eaa, by omega, by omega, by omega, by omega, by omega, by omega⟩
    · exact ⟨rfl, .inl ⟨rfl, rfl⟩, e2, eaa, by omega, by omega, by omega, by omega, by omega, by omega⟩
  · rw [Int.compare_eq_gt.2 h] at oab
    rw [Int.compare_eq_lt.2 h] at oba
    have e1 : lessC a b = 0 := by unfold lessC; rw [oab]; rfl
    have e2 : lessC b a = -1 := by unfold lessC; rw [oba]; rfl
    have e3 : equalC a b = 0 := by unfold equalC; rw [oab]; rfl
    have e4 : minC a b = b := by unfold minC minOf; rw [oab]; exact mb
    have e5 : maxC a b = a := by unfold maxC maxOf; rw [oab]; exact ma
    rw [e1, e2, e3, e4, e5, e1]
    exact ⟨rfl, .inr ⟨rfl, rfl⟩, rfl, eaa, by omega, by omega, by omega, by omega, by omega, by omega⟩

set_option maxHeartbeats 6400000 in
set_option maxRecDepth 100000 in
theorem RealOrders_walk (a b : Int) (a0 : -9223372036854775808 ≤ a) (a1 : a ≤ 9223372036854775807) (b0 : -9223372036854775808 ≤ b) (b1 : b ≤ 9223372036854775807) (w : World) (hT : TzTab w) (hP : PowTab w) :
    Calls Tryd.prog 3 #[.int .i64 a, .int .i64 b] w fun e w' => e = .returned (.bool true) ∧ Touch [] w w' := by
  have HT := Lib.hid hT
  have HP := Lib.hid hP
  clear hT hP
  by_cases hn : nanB (bitsOf a) ∨ nanB (bitsOf b)
  · obtain ⟨e1, e2, e3, e4, e5⟩ := law_none hn
    have hl1 := fun W => orders_less a b W
    have hl2 := fun W => orders_less b a W
    have hl3 := fun W => orders_equal a b W
    have hl4 := fun W => orders_min a b W
    have hl5 := fun W => orders_max a b W
    rw [e1] at hl1
    rw [e2] at hl2
    rw [e3] at hl3
    rw [e4] at hl4
    rw [e5] at hl5
    clear e1 e2 e3 e4 e5
    have hor : (decide (nanB (bitsOf a)) = true) ∨ (decide (nanB (bitsOf a)) = false ∧ decide (nanB (bitsOf b)) = true) := by
      by_cases h : nanB (bitsOf a)
      · exact .inl (decide_eq_true h)
      · exact .inr ⟨decide_eq_false h, decide_eq_true (hn.resolve_left h)⟩
    clear hn
    go_enter Tryd.func3, Tryd.ntmps3
    go_wp2_with fail
    refine (shown_any _ HT.out HP.out).mono ?_
    rintro _ w1 ⟨rfl, t1⟩
    go_wp2_with fail
    refine (hl1 _).mono ?_
    rintro _ w2 ⟨rfl, t2⟩
    have t3 := t1.trans t2 (by simp)
    clear t1 t2
    go_wp2_with fail
    refine (hl2 _).mono ?_
    rintro _ w4 ⟨rfl, t4⟩
    have t5 := t3.trans t4 (by simp)
    clear t3 t4
    go_wp2_with fail
    refine (hl3 _).mono ?_
    rintro _ w6 ⟨rfl, t6⟩
    have t7 := t5.trans t6 (by simp)
    clear t5 t6
    go_wp2_with fail
    refine (hl4 _).mono ?_
    rintro _ w8 ⟨rfl, t8⟩
    have t9 := t7.trans t8 (by simp)
    clear t7 t8
    go_wp2_with fail
    refine (hl5 _).mono ?_
    rintro _ w10 ⟨rfl, t10⟩
    have t11 := t9.trans t10 (by simp)
    clear t9 t10
    go_wp2_with fail
    refine (none_any a _ (HT.out.touch t11) (tab_touch HP.out t11)).mono ?_
    rintro _ w12 ⟨rfl, t12⟩
    have t13 := t11.trans t12 (by simp)
    clear t11 t12
    rcases hor with hor | ⟨hor, hor2⟩
    · rw [hor]
      go_wp2_with fail
      go_ret
      exact ⟨rfl, t13⟩
    · rw [hor]
      go_wp2_with fail
      refine (none_any b _ (HT.out.touch t13) (tab_touch HP.out t13)).mono ?_
      rintro _ w14 ⟨rfl, t14⟩
      have t15 := t13.trans t14 (by simp)
      rw [hor2]
      clear t13 t14
      go_wp2_with fail
      go_ret
      exact ⟨rfl, t15⟩
  · obtain ⟨e1, e2, e3, e4, r1, r2, r3, r4, r5, r6⟩ := law_num a0 a1 b0 b1 (fun h => hn (.inl h)) (fun h => hn (.inr h))
    have hna : decide (nanB (bitsOf a)) = false := decide_eq_false fun h => hn (.inl h)
    have hnb : decide (nanB (bitsOf b)) = false := decide_eq_false fun h => hn (.inr h)
    have hl1 := fun W => orders_less a b W
    have hl2 := fun W => orders_less b a W
    have hl3 := fun W => orders_equal a b W
    have hl4 := fun W => orders_min a b W
    have hl5 := fun W => orders_max a b W
    have hl6 := fun W => orders_less (maxC a b) (minC a b) W
    have hl7 := fun W => orders_equal a a W
    rw [e3] at hl6
    rw [e4] at hl7
    clear hn e3 e4
    obtain ⟨x1, hx1⟩ : ∃ x1, lessC a b = x1 := ⟨_, rfl⟩
    obtain ⟨x2, hx2⟩ : ∃ x2, lessC b a = x2 := ⟨_, rfl⟩
    obtain ⟨x3, hx3⟩ : ∃ x3, equalC a b = x3 := ⟨_, rfl⟩
    obtain ⟨lo, hlo⟩ : ∃ lo, minC a b = lo := ⟨_, rfl⟩
    obtain ⟨hi, hhi⟩ : ∃ hi, maxC a b = hi := ⟨_, rfl⟩
    simp only [hx1, hx2, hx3, hlo, hhi] at e1 e2 r1 r2 r3 r4 r5 r6 hl1 hl2 hl3 hl4 hl5 hl6
    clear hx1 hx2 hx3 hlo hhi
    have hsum : x3 = -1 - x1 - x2 := by omega
    have s1 : IntKind.i64.wrap (x1 + x2) = x1 + x2 := by rw [IntKind.wrap_i64]; omega
    have s2 : IntKind.i64.wrap (x1 + x2 + x3) = -1 := by rw [IntKind.wrap_i64]; omega
    have w1 : wrap64 (x1 + x2) = x1 + x2 := by unfold wrap64; omega
    have w2 : wrap64 (x1 + x2 + x3) = -1 := by unfold wrap64; omega
    clear e1 hsum
    have e2' : (lo = a ∧ hi = b) ∨ (lo = b ∧ hi = a ∧ b ≠ a) := by
      by_cases hab : b = a
      · rcases e2 with ⟨h1, h2⟩ | ⟨h1, h2⟩
        · exact .inl ⟨h1, h2⟩
        · exact .inl ⟨h1.trans hab, h2.trans hab.symm⟩
      · rcases e2 with ⟨h1, h2⟩ | ⟨h1, h2⟩
        · exact .inl ⟨h1, h2⟩
        · exact .inr ⟨h1, h2, hab⟩
    clear e2
    rcases e2' with ⟨h1, h2⟩ | ⟨h1, h2, hne⟩
    all_goals
      subst h1 h2
      go_enter Tryd.func3, Tryd.ntmps3
      go_wp2_with fail
      refine (shown_any _ HT.out HP.out).mono ?_
      rintro _ w1 ⟨rfl, t1⟩
      go_wp2_with fail
      refine (hl1 _).mono ?_
      rintro _ w2 ⟨rfl, t2⟩
      have t3 := t1.trans t2 (by simp)
      clear t1 t2
      go_wp2_with fail
      refine (hl2 _).mono ?_
      rintro _ w4 ⟨rfl, t4⟩
      have t5 := t3.trans t4 (by simp)
      clear t3 t4
      go_wp2_with fail
      refine (hl3 _).mono ?_
      rintro _ w6 ⟨rfl, t6⟩
      have t7 := t5.trans t6 (by simp)
      clear t5 t6
      go_wp2_with fail
      refine (hl4 _).mono ?_
      rintro _ w8 ⟨rfl, t8⟩
      have t9 := t7.trans t8 (by simp)
      clear t7 t8
      go_wp2_with fail
      refine (hl5 _).mono ?_
      rintro _ w10 ⟨rfl, t10⟩
      have t11 := t9.trans t10 (by simp)
      clear t9 t10
      go_wp2_with fail
      refine (none_any _ _ (HT.out.touch t11) (tab_touch HP.out t11)).mono ?_
      rintro _ w12 ⟨rfl, t12⟩
      have t13 := t11.trans t12 (by simp)
      clear t11 t12
      rw [hna]
      go_wp2_with fail
      refine (none_any _ _ (HT.out.touch t13) (tab_touch HP.out t13)).mono ?_
      rintro _ w14 ⟨rfl, t14⟩
      have t15 := t13.trans t14 (by simp)
      rw [hnb]
      clear t13 t14
    all_goals
      go_wp2_with fail
      refine (hl6 _).mono ?_
      rintro _ w16 ⟨rfl, t16⟩
      have t17 := t15.trans t16 (by simp)
      clear t15 t16
      go_wp2_with fail
      refine (hl7 _).mono ?_
      rintro _ w18 ⟨rfl, t18⟩
      have t19 := t17.trans t18 (by simp)
      clear t17 t18
      go_wp2_with fail
      go_ret
      exact ⟨rfl, t19⟩

end Go.Proofs.YtibifcchmccknaaDoor
