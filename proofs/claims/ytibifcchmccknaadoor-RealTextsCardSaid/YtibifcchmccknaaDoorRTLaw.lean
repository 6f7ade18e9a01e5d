/- Both Numbers answer alike. -/
import Derived.Test.YtibifcchmccknaaDoorRTNum
namespace Go.Proofs.YtibifcchmccknaaDoor
open Go.RowKit

theorem odd_lt (m m' a b : Nat) (hm : m % 2 = 1) (hab : a < b) (h : m * 2 ^ a = m' * 2 ^ b) : False := by
  obtain ⟨c, rfl⟩ : ∃ c, b = a + (c + 1) := ⟨b - a - 1, by omega⟩
  rw [Nat.pow_add, Nat.mul_left_comm, Nat.mul_comm m] at h
  have h2 := Nat.eq_of_mul_eq_mul_left (Nat.two_pow_pos a) h
  rw [Nat.pow_succ, ← Nat.mul_assoc] at h2
  omega
theorem odd_uniq2 (m m' a b : Nat) (hm : m % 2 = 1) (hm' : m' % 2 = 1) (h : m * 2 ^ a = m' * 2 ^ b) : m = m' ∧ a = b := by
  rcases Nat.lt_trichotomy a b with h1 | h1 | h1
  · exact (odd_lt m m' a b hm h1 h).elim
  · subst h1
    exact ⟨Nat.eq_of_mul_eq_mul_right (Nat.two_pow_pos a) h, rfl⟩
  · exact (odd_lt m' m b a hm' h1 h.symm).elim

theorem index_none (l : List UInt8) (c : UInt8) (h : c ∉ l) : Lib.index l [c] = -1 := by
  induction l with
  | nil => simp [Lib.index]
  | cons b t ih =>
    have hb : (c == b) = false := by rw [beq_eq_false_iff_ne]; intro e; exact h (by rw [e]; simp)
    have ht := ih (fun hc => h (List.mem_cons_of_mem _ hc))
    simp [Lib.index, List.isPrefixOf, hb, ht]
theorem cut_none (l : List UInt8) (c : UInt8) (h : c ∉ l) : Lib.cut l [c] = (l, [], false) := by
  unfold Lib.cut
  rw [index_none l c h, if_neg (by omega)]

theorem made_fin (sg : Bool) (r : Nat) (hr : r < 9218868437227405312) : madeOf (Ieee.double.word sg r) = cellOf (Ieee.double.word sg r) := by
  have h : ¬ nanB (Ieee.double.word sg r) := by
    unfold nanB
    rw [Fl.rg_word sg r (by omega)]
    omega
  unfold madeOf
  rw [if_neg h]
theorem word_lt (sg : Bool) (r : Nat) (hr : r < 9218868437227405312) : Ieee.double.word sg r < 18446744073709551616 := by
  cases sg <;> simp [Ieee.Format.word, Fl.c_sign] <;> omega
theorem bits_back (n : Nat) (h : n < 18446744073709551616) : bitsOf (cellOf n) = n := bits_cell n h

/-- a cell that is finite, taken apart -/
theorem fin_parts (x : Nat) (M' : Nat) (E' : Int) (hk : (partF x).kind = 2) (h : StripP (partF x) M' E') : ∃ j : Nat, Fl.rg x < 9218868437227405312 ∧ Fl.M (Fl.rg x) = M' * 2 ^ j ∧ E' = (Fl.E (Fl.rg x) : Int) - 1074 + j ∧ (M' = 0 ∨ M' % 2 = 1) := by
  obtain ⟨p1, p2, p3⟩ := part_rg x
  rcases nan_or' x with h1 | h1 | h1
  · rw [p1 h1] at hk; simp at hk
  · rw [p2 h1] at hk; simp at hk
  · rw [p3 h1] at h
    obtain ⟨j, e1, e2, e3⟩ := h
    exact ⟨j, h1, Int.ofNat.inj e1, e2, e3 rfl⟩

theorem near_agree (s rest hd tl tl2 : ByteArray) (sg under : Bool) (M : Nat) (k : Int) (hP : PartsA s rest hd tl tl2 sg true under (M : Int) k true true) (hM0 : M ≠ 0) (hM1 : M ≤ 9007199254740992) : ∃ v0 b0, NumIs s v0 b0 ∧ ∀ v b, DocNear sg M (if under then -k else k) v b → v = v0 ∧ b = b0 := by
  obtain ⟨q, hMq, hn64⟩ := Lib.ctzFrom_spec 64 M (by omega) (by omega)
  have hctz : Lib.ctz 64 M = Lib.ctzFrom 64 M := by simp [Lib.ctz, hM0]
  obtain ⟨n, hn⟩ : ∃ n, Lib.ctzFrom 64 M = n := ⟨_, rfl⟩
  rw [hn] at hMq hn64 hctz
  have hbl := bitLen_log M hM0 (by omega)
  have hlogM : M.log2 < 54 := (Nat.log2_lt hM0).2 (by omega)
  obtain ⟨m, hm⟩ : ∃ m, 2 * q + 1 = m := ⟨_, rfl⟩
  rw [hm] at hMq
  have hm0 : m ≠ 0 := by omega
  have hMm : M = m * 2 ^ n := by rw [hMq, Nat.mul_comm]
  have hlog : M.log2 = m.log2 + n := by rw [hMm]; exact Fl.log2_mul_pow m n hm0
  have hm53 : m < 9007199254740992 := by
    rcases Nat.eq_zero_or_pos n with h | h
    · rw [h, Nat.pow_zero, Nat.mul_one] at hMm
      omega
    · obtain ⟨j, hj⟩ : ∃ j, n = j + 1 := ⟨n - 1, by omega⟩
      have h1 : m * 2 ≤ M := by
        rw [hMm, hj, Nat.pow_succ, ← Nat.mul_assoc, Nat.mul_right_comm]
        exact Nat.le_mul_of_pos_right _ (Nat.two_pow_pos j)
      omega
  obtain ⟨E, hEd⟩ : ∃ E, (if under then -k else k) = E := ⟨_, rfl⟩
  rw [hEd]
  by_cases hA : E + (n : Int) < -1074
  · have hno := Number_far s rest hd tl tl2 sg under M n (M.log2 + 1) k hP hM0 (by omega) hctz hbl hn64 (by omega) (.inl (by rw [hEd]; exact hA))
    refine ⟨0, false, hno, fun v b hD => ?_⟩
    obtain ⟨f, m', e', M', E', hR, ⟨j1, s1, s2, s3⟩, hS, hres⟩ := hD
    obtain ⟨hmm, hjn⟩ := odd_uniq2 m m' n j1 (by omega) s3 (by rw [← hMm, ← s1])
    subst hmm hjn
    rcases hres with ⟨_, _, h3, h4, h5⟩ | ⟨rfl, rfl, _⟩
    · obtain ⟨j, g1, g2, g3, g4⟩ := fin_parts _ M' E' h3 hS
      exfalso
      omega
    · exact ⟨rfl, rfl⟩
  by_cases hB : 1024 < E + ((M.log2 + 1 : Nat) : Int)
  · have hno := Number_far s rest hd tl tl2 sg under M n (M.log2 + 1) k hP hM0 (by omega) hctz hbl hn64 (by omega) (.inr ⟨by rw [hEd]; omega, by rw [hEd]; exact hB⟩)
    refine ⟨0, false, hno, fun v b hD => ?_⟩
    obtain ⟨f, m', e', M', E', hR, ⟨j1, s1, s2, s3⟩, hS, hres⟩ := hD
    obtain ⟨hmm, hjn⟩ := odd_uniq2 m m' n j1 (by omega) s3 (by rw [← hMm, ← s1])
    subst hmm hjn
    rcases hres with ⟨_, _, h3, h4, h5⟩ | ⟨rfl, rfl, _⟩
    · obtain ⟨j, g1, g2, g3, g4⟩ := fin_parts _ M' E' h3 hS
      exfalso
      have hv : Fl.Nv (Fl.rg (bitsOf f)) = m * 2 ^ (j + Fl.E (Fl.rg (bitsOf f))) := by
        unfold Fl.Nv
        rw [g2, h4, Nat.pow_add, Nat.mul_assoc]
      have hb := bitLen_bound hm0 g1 hv (by omega)
      rw [bitLen_log m hm0 (by omega)] at hb
      omega
    · exact ⟨rfl, rfl⟩
  obtain ⟨t, ht⟩ : ∃ t : Nat, (t : Int) = E + n + 1074 := ⟨(E + n + 1074).toNat, by omega⟩
  obtain ⟨r, hr, hrv⟩ := Fl.rung_of m t hm53 (.inr (by omega))
  obtain ⟨q0, hq0, hqv⟩ := Fl.rung_of m (1074 + n) hm53 (.inr (by omega))
  have hw : floatOfInt .f64 (M : Int) = q0 := by
    have : floatOfInt .f64 (M : Int) = Ieee.double.word (decide ((M : Int) < 0)) q0 := Fl.write_unit _ hq0 (by
      rw [hqv, Int.natAbs_natCast, hMm, Fl.U_eq, Fl.B_eq, Nat.add_comm, Nat.pow_add, Nat.mul_assoc])
    rw [this, decide_eq_false (by omega), Fl.word_false]
  have hyes := Number_near s rest hd tl tl2 sg under M n (M.log2 + 1) r q0 k hP hM0 (by omega) hctz hbl hn64 (by omega) (by rw [hEd]; omega) (by rw [hEd]; omega) hr hw (by
    intro K hK W
    rw [hEd] at hK
    exact scaled_gen m t r q0 n hm53 (by omega) (by omega) hrv hq0 hqv K (by omega) W)
  rw [made_fin sg r hr] at hyes
  refine ⟨_, true, hyes, fun v b hD => ?_⟩
  obtain ⟨f, m', e', M', E', hR, ⟨j1, s1, s2, s3⟩, hS, hres⟩ := hD
  obtain ⟨hmm, hjn⟩ := odd_uniq2 m m' n j1 (by omega) s3 (by rw [← hMm, ← s1])
  subst hmm hjn
  have hf : f = cellOf (Ieee.double.word sg r) := by
    rcases (show E + 1074 < 0 ∨ 0 ≤ E + 1074 by omega) with h | h
    · obtain ⟨z, hz⟩ : ∃ z : Nat, (z : Int) = -(E + 1074) := ⟨(-(E + 1074)).toNat, by omega⟩
      refine hR.2.2 r 0 z hr ?_ (by omega)
      rw [hrv, Nat.mul_assoc, ← Nat.pow_add, show t + z = n by omega, Nat.pow_zero, Nat.mul_one, hMm]
    · obtain ⟨z, hz⟩ : ∃ z : Nat, (z : Int) = E + 1074 := ⟨(E + 1074).toNat, by omega⟩
      refine hR.2.2 r z 0 hr ?_ (by omega)
      rw [hrv, Nat.pow_zero, Nat.mul_one, hMm, Nat.mul_assoc, ← Nat.pow_add, show n + z = t by omega]
  have hbf : bitsOf f = Ieee.double.word sg r := by rw [hf, bits_back _ (word_lt sg r hr)]
  have hrg : Fl.rg (bitsOf f) = r := by rw [hbf, Fl.rg_word sg r (by omega)]
  have hkind : (partF (bitsOf f)).kind = 2 := by rw [(part_rg (bitsOf f)).2.2 (by rw [hrg]; exact hr)]
  obtain ⟨j, g1, g2, g3, g4⟩ := fin_parts _ M' E' hkind hS
  rw [hrg] at g2 g3
  have hv : m * 2 ^ t = M' * 2 ^ (j + Fl.E r) := by
    rw [← hrv, Nat.pow_add, ← Nat.mul_assoc, ← g2]
    rfl
  have hodd : M' % 2 = 1 := by
    rcases g4 with g4 | g4
    · rw [g4, Nat.zero_mul] at hv
      have := Nat.mul_pos (Nat.pos_of_ne_zero hm0) (Nat.two_pow_pos t)
      omega
    · exact g4
  obtain ⟨u1, u2⟩ := odd_uniq2 m M' t (j + Fl.E r) (by omega) hodd hv
  rcases hres with ⟨rfl, rfl, _⟩ | ⟨_, _, h3⟩
  · exact ⟨hf, rfl⟩
  · exact absurd ⟨hkind, u1.symm, by omega⟩ h3

theorem num_agree (s : ByteArray) (hs : s.size ≤ 200) : ∃ v0 b0, NumIs s v0 b0 ∧ ∀ v b, DocNum (Lib.hasPrefix s.data.toList [45]) (Lib.trimPrefix s.data.toList [45]) v b → v = v0 ∧ b = b0 := by
  obtain ⟨r1, hr1⟩ : ∃ r1, Lib.trimPrefix s.data.toList [45] = r1 := ⟨_, rfl⟩
  rw [hr1]
  by_cases hmem : (112 : UInt8) ∈ r1
  · obtain ⟨h, t, hr, hh⟩ := List.eq_append_cons_of_mem hmem
    have hcut := cut_one h t 112 hh
    obtain ⟨rest, hd, tl, tl2, m, k, hP, hm, hk⟩ := partsX s hs r1 h t _ _ true _ hr1 rfl (by rw [hr]; exact hcut) rfl rfl
    obtain ⟨ok, hok⟩ : ∃ ok, wholeB h 16 = ok := ⟨_, rfl⟩
    obtain ⟨is, his⟩ : ∃ is, wholeB (Lib.trimPrefix t [45]) 4 = is := ⟨_, rfl⟩
    rw [hok, his] at hP
    rw [hok] at hm
    rw [his] at hk
    have key : ∀ v b, DocNum (Lib.hasPrefix s.data.toList [45]) r1 v b → (¬ (ok = true ∧ is = true ∧ (accN 0 h).1 ≤ 9007199254740992) ∧ v = 0 ∧ b = false) ∨
        (ok = true ∧ is = true ∧ (accN 0 h).1 ≤ 9007199254740992 ∧ ((accN 0 h).1 = 0 ∧ v = cellOf (Ieee.double.word (Lib.hasPrefix s.data.toList [45]) 0) ∧ b = true ∨
          0 < (accN 0 h).1 ∧ DocNear (Lib.hasPrefix s.data.toList [45]) (accN 0 h).1 (if Lib.hasPrefix t [45] then -(((accN 0 (Lib.trimPrefix t [45])).1 : Nat) : Int) else (((accN 0 (Lib.trimPrefix t [45])).1 : Nat) : Int)) v b)) := by
      rintro v b (⟨h1, _⟩ | ⟨h', t', g1, g2, g3⟩)
      · exact absurd hmem h1
      · have hcut2 := cut_one h' t' 112 g2
        rw [← g1, hr, hcut] at hcut2
        obtain ⟨rfl, hx⟩ := (Prod.mk.injEq _ _ _ _).mp hcut2
        obtain ⟨rfl, _⟩ := (Prod.mk.injEq _ _ _ _).mp hx
        rw [hok, his] at g3
        exact g3
    rcases ok with _ | _
    · exact ⟨0, false, Number_no _ _ _ _ _ _ _ _ _ _ _ _ hP (.inr (.inl ⟨rfl, rfl⟩)), fun v b hD => by
        rcases key v b hD with ⟨_, h1, h2⟩ | ⟨h1, _⟩
        · exact ⟨h1, h2⟩
        · cases h1⟩
    rcases is with _ | _
    · exact ⟨0, false, Number_no _ _ _ _ _ _ _ _ _ _ _ _ hP (.inr (.inr (.inl ⟨rfl, rfl, rfl⟩))), fun v b hD => by
        rcases key v b hD with ⟨_, h1, h2⟩ | ⟨_, h1, _⟩
        · exact ⟨h1, h2⟩
        · cases h1⟩
    have hm2 := hm rfl
    have hk2 := hk rfl
    subst hm2 hk2
    by_cases hbig : (accN 0 h).1 ≤ 9007199254740992
    · by_cases hz : (accN 0 h).1 = 0
      · have hn := Number_zero _ _ _ _ _ _ _ _ _ hP (by rw [hz]; decide)
        rw [made_fin _ 0 (by omega)] at hn
        refine ⟨_, true, hn, fun v b hD => ?_⟩
        rcases key v b hD with ⟨h1, _⟩ | ⟨_, _, _, ⟨_, h2, h3⟩ | ⟨h2, _⟩⟩
        · exact absurd ⟨rfl, rfl, hbig⟩ h1
        · exact ⟨h2, h3⟩
        · omega
      · obtain ⟨v0, b0, hn, hu⟩ := near_agree _ _ _ _ _ _ _ _ _ hP hz hbig
        refine ⟨v0, b0, hn, fun v b hD => ?_⟩
        rcases key v b hD with ⟨h1, _⟩ | ⟨_, _, _, ⟨h2, _⟩ | ⟨_, h2⟩⟩
        · exact absurd ⟨rfl, rfl, hbig⟩ h1
        · exact absurd h2 hz
        · exact hu v b h2
    · refine ⟨0, false, Number_no _ _ _ _ _ _ _ _ _ _ _ _ hP (.inr (.inr (.inr ⟨rfl, rfl, rfl, by omega⟩))), fun v b hD => ?_⟩
      rcases key v b hD with ⟨_, h1, h2⟩ | ⟨_, _, h1, _⟩
      · exact ⟨h1, h2⟩
      · exact absurd h1 hbig
  · obtain ⟨rest, hd, tl, tl2, m, k, hP, _, _⟩ := partsX s hs r1 _ _ _ _ _ _ hr1 rfl (cut_none _ _ hmem) rfl rfl
    refine ⟨0, false, Number_no _ _ _ _ _ _ _ _ _ _ _ _ hP (.inl rfl), fun v b hD => ?_⟩
    rcases hD with ⟨_, h1, h2⟩ | ⟨h, t, hr, _⟩
    · exact ⟨h1, h2⟩
    · exact absurd (by rw [hr]; simp) hmem

/-- a cell has one text -/
theorem text_uniq (x : Nat) (s s' : ByteArray) (h : TextIs x s) (h' : TextIs x s') : s = s' := by
  have hz : ∀ m t : Nat, Fl.rg x = 0 → m % 2 = 1 → Fl.Nv (Fl.rg x) = m * 2 ^ t → False := fun m t h0 hm hv => by
    rw [h0, show Fl.Nv 0 = 0 by decide] at hv
    have := Nat.mul_pos (show 0 < m by omega) (Nat.two_pow_pos t)
    omega
  unfold TextIs nanB at h h'
  rcases h with ⟨a1, rfl⟩ | ⟨a1, rfl⟩ | ⟨a1, rfl⟩ | ⟨a1, m, t, a2, a3, _, _, rfl⟩ <;> rcases h' with ⟨b1, rfl⟩ | ⟨b1, rfl⟩ | ⟨b1, rfl⟩ | ⟨b1, m', t', b2, b3, _, _, rfl⟩
  all_goals first
    | rfl
    | (exfalso; omega)
    | exact (hz _ _ a1 b2 b3).elim
    | exact (hz _ _ b1 a2 a3).elim
    | skip
  obtain ⟨rfl, rfl⟩ := odd_uniq2 m m' t t' a2 b2 (by rw [← a3, ← b3])
  rfl
end Go.Proofs.YtibifcchmccknaaDoor
