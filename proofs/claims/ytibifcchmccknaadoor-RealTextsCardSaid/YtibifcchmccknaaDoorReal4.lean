/- The contracts of FormatUint at base 10, of Text, and of none. -/
import Derived.Test.YtibifcchmccknaaDoorReal3
import Derived.Test.YtibifcchmccknaaDoorShelf
import Derived.Lib.ItoaMem
import Derived.Lib.AppendIntMem
namespace Go.Proofs.YtibifcchmccknaaDoor
open Go.RowKit Go.Sort Go.Lib

theorem holds_zeroA (w : World) (T : TypeId) (nd : Nat) (hs : nd ≤ 24) : Holds (fun (b : UInt8) => Value.int .u8 (b.toNat : Int)) (w.alloc (.cells Lib.zeros24 T)) w.heap.size 0 (Array.replicate nd (0 : UInt8)) := fun j hj => by
  have hj' : j < nd := by simpa using hj
  refine ⟨?_, World.frozen?_alloc_new _ _ _ _⟩
  rw [World.cell?_alloc_new, zeros24_at _ (by omega), getElem!_pos _ j hj]
  simp
theorem fin_zero (w : World) (o : Obj) (dk : Array UInt8) (k : Nat) : ∃ os, (putRow (fun (b : UInt8) => Value.int .u8 (b.toNat : Int)) (w.alloc o) w.heap.size 0 dk).drewN k = grow (w.drewN k) os := by
  rw [alloc_eq_grow]
  obtain ⟨os', _, e⟩ := putRow_grow_new (fun (b : UInt8) => Value.int .u8 (b.toNat : Int)) w #[o] w.heap.size 0 dk (Nat.le_refl _)
  exact ⟨os', by rw [e]; rfl⟩

/-- the table of powers of ten -/
def PowTab (w : World) : Prop := Lib.TabIs Tryd.prog w "internal/strconv.uint64pow10" .u64 Lib.pow10Tab

set_option maxHeartbeats 6400000 in
set_option maxRecDepth 100000 in
theorem formatUint_in (u : Nat) (hu64 : u < 18446744073709551616) (w : World) (htab : PowTab w) :
    Calls Tryd.prog 54 #[.int .u64 u, .int .i64 10] w fun e w' => e = .returned (.string ⟨(Lib.decDigits u).toArray⟩) ∧ ∃ k os, w' = grow (w.drewN k) os := by
  by_cases hs : u < 100
  · go_enter Tryd.func54, Tryd.ntmps54
    go_wp2_with fail
    refine (Tryd.internal_strconv_small u hs _).mono ?_
    rintro _ _ ⟨rfl, rfl⟩
    go_wp2_with fail
    go_ret
    exact ⟨rfl, 0, #[], by simp [World.drewN_zero]⟩
  · have hu1 : 1 ≤ u := by omega
    have hnd20 : Lib.nDigits u ≤ 20 := by have := Lib.numDigits_eq u hu1 hu64; split at this <;> omega
    have hal : Tryd.prog.arrayLen 88 = 24 := by kernel_rfl
    have hsl1 : ∀ W, (Instr.sliceAt 88 (.pointer (some ⟨w.heap.size, 0, none⟩)) none (some (.int .i64 (Lib.nDigits u : Int))) none).run Tryd.prog W = .ok (.slice (some ⟨w.heap.size, 0, none⟩) (Lib.nDigits u) 24) W := fun W => by
      rw [run_sliceAt_array_h W 88 ⟨w.heap.size, 0, none⟩ (by kernel_rfl) .i64 (Lib.nDigits u : Int) (by omega) (by rw [hal]; omega)]
      go_simp
    have hH0 := holds_zeroA w 88 (Lib.nDigits u) (by omega)
    have hfmt := Tryd.internal_strconv_formatBase10 w.heap.size 0 24 u (Array.replicate (Lib.nDigits u) 0) (w.alloc (.cells Lib.zeros24 88)) hH0 (by rw [Array.size_replicate]; exact Lib.lt_pow_nDigits u) hu64 (by rw [Array.size_replicate]; omega)
    rw [Array.size_replicate] at hfmt
    have HH0 := Lib.hid hH0
    clear hH0 hal
    go_enter Tryd.func54, Tryd.ntmps54
    go_wp2_with fail
    refine (Tryd.internal_strconv_numDigits u hu1 hu64 _ (Lib.tabIs_alloc htab _)).mono ?_
    rintro _ _ ⟨rfl, rfl⟩
    go_wp2_with fail
    refine hfmt.mono ?_
    rintro e w' ⟨rfl, k, v', dk, rfl, hF⟩
    have hcv : (convert 90 9 (.slice (some ⟨w.heap.size, 0, none⟩) (Lib.nDigits u) 24)).run Tryd.prog ((putRow (fun (b : UInt8) => Value.int .u8 (b.toNat : Int)) (w.alloc (.cells Lib.zeros24 88)) w.heap.size 0 dk).drewN k) = .ok (.string ⟨(Lib.decDigits u).toArray⟩) ((putRow (fun (b : UInt8) => Value.int .u8 (b.toNat : Int)) (w.alloc (.cells Lib.zeros24 88)) w.heap.size 0 dk).drewN k) := by
      have h := run_convert_bytes_back (P := Tryd.prog) ((putRow (fun (b : UInt8) => Value.int .u8 (b.toNat : Int)) (w.alloc (.cells Lib.zeros24 88)) w.heap.size 0 dk).drewN k) 90 9 5 ⟨w.heap.size, 0, none⟩ 24 (Lib.decDigits u) (by kernel_rfl) (by kernel_rfl) (by kernel_rfl) (fun j hj => by
        rw [Lib.row_is_numeral hF j hj, Lib.add_plain, World.cell?_drewN]
        exact cell?_putRow (fun (b : UInt8) => Value.int .u8 (b.toNat : Int)) _ w.heap.size 0 _ dk HH0.out (by rw [hF.size, Array.size_replicate]) j (by rw [hF.size]; rw [Lib.decDigits_length] at hj; exact hj))
      rw [Lib.decDigits_length] at h
      exact h
    go_wp2
    go_ret
    obtain ⟨os, eo⟩ := fin_zero w (.cells Lib.zeros24 88) dk k
    exact ⟨rfl, k, os, eo⟩

theorem tab_touch {name : String} {k : IntKind} {zs : List Int} {w w' : World} (h : Lib.TabIs Tryd.prog w name k zs) (ht : Touch [] w w') : Lib.TabIs Tryd.prog w' name k zs := by
  unfold Lib.TabIs World.var? at *
  cases hg : Tryd.prog.globalNamed name with
  | none => simp [hg] at h
  | some g =>
    simp only [hg, Option.bind_some] at h ⊢
    have hlt : g < w.heap.size := by
      rcases Nat.lt_or_ge g w.heap.size with h' | h'
      · exact h'
      · rw [Array.getElem?_eq_none h'] at h; simp at h
    rw [ht.block g hlt (by simp)]
    exact h
theorem touch_grow (w : World) (k : Nat) (os : Array Obj) : Touch [] w (grow (w.drewN k) os) := Touch.of_below (Go.Lib.below_grow _ w (Nat.le_refl _) k os) _

theorem formatUint_any (u : Nat) (hu64 : u < 18446744073709551616) (w : World) (htab : PowTab w) :
    Calls Tryd.prog 41 #[.int .u64 u, .int .i64 10] w fun e w' => e = .returned (.string ⟨(Lib.decDigits u).toArray⟩) ∧ Touch [] w w' := by
  go_enter Tryd.func41, Tryd.ntmps41
  go_wp2_with fail
  refine (formatUint_in u hu64 _ htab).mono ?_
  rintro _ w1 ⟨rfl, k, os, rfl⟩
  go_wp2_with fail
  go_ret
  exact ⟨rfl, touch_grow _ _ _⟩

theorem t_bound {r m t : Nat} (hr : r < 9218868437227405312) (hm : m % 2 = 1) (h : Fl.Nv r = m * 2 ^ t) : t < 4000 := by
  have hm0 : m ≠ 0 := by omega
  have hE := Fl.E_le hr
  rcases Fl.log_M r with h0 | h0
  · rw [Fl.Nv, h0, Nat.zero_mul] at h
    rcases Nat.mul_eq_zero.1 h.symm with h1 | h1
    · exact absurd h1 hm0
    · exact absurd h1 (Nat.ne_of_gt (Nat.two_pow_pos _))
  · have hM : Fl.M r ≠ 0 := by
      intro h1
      rw [Fl.Nv, h1, Nat.zero_mul] at h
      rcases Nat.mul_eq_zero.1 h.symm with h1 | h1
      · exact absurd h1 hm0
      · exact absurd h1 (Nat.ne_of_gt (Nat.two_pow_pos _))
    have e1 := Fl.log2_mul_pow (Fl.M r) (Fl.E r) hM
    have e2 := Fl.log2_mul_pow m t hm0
    rw [← h] at e2
    rw [show Fl.M r * 2 ^ Fl.E r = Fl.Nv r from rfl] at e1
    omega

theorem dec_size (m : Nat) (h : m < 18446744073709551616) : (⟨(Lib.decDigits m).toArray⟩ : ByteArray).size ≤ 20 := by
  show (Lib.decDigits m).toArray.size ≤ 20
  rw [List.size_toArray, Lib.decDigits_length]
  rcases Nat.eq_zero_or_pos m with h0 | h0
  · subst h0; decide +kernel
  · have := Lib.numDigits_eq m h0 h
    split at this <;> omega
theorem itoa_size (n : Int) (h0 : -5000 ≤ n) (h1 : n ≤ 5000) : (⟨(Lib.itoa n).toArray⟩ : ByteArray).size ≤ 21 := by
  show (Lib.itoa n).toArray.size ≤ 21
  rw [List.size_toArray]
  rcases Int.lt_or_le n 0 with h | h
  · obtain ⟨u, rfl⟩ : ∃ u : Nat, n = -(u : Int) := ⟨n.natAbs, by omega⟩
    have := dec_size u (by omega)
    rw [Lib.itoa_neg u (by omega), List.length_cons]
    have e : (⟨(Lib.decDigits u).toArray⟩ : ByteArray).size = (Lib.decDigits u).length := by show (Lib.decDigits u).toArray.size = _; rw [List.size_toArray]
    omega
  · obtain ⟨u, rfl⟩ : ∃ u : Nat, n = (u : Int) := ⟨n.toNat, by omega⟩
    have := dec_size u (by omega)
    rw [Lib.itoa_nonneg]
    have e : (⟨(Lib.decDigits u).toArray⟩ : ByteArray).size = (Lib.decDigits u).length := by show (Lib.decDigits u).toArray.size = _; rw [List.size_toArray]
    omega

def sgnS (x : Nat) : ByteArray := if Fl.sg x then ⟨#[45]⟩ else ⟨#[]⟩
/-- the text of a number -/
def TextIs (x : Nat) (s : ByteArray) : Prop :=
  (nanB x ∧ s = ⟨#[110, 97, 110]⟩) ∨ (Fl.rg x = 9218868437227405312 ∧ s = sgnS x ++ ⟨#[105, 110, 102]⟩) ∨ (Fl.rg x = 0 ∧ s = sgnS x ++ ⟨#[48]⟩ ++ ⟨#[112]⟩ ++ ⟨#[48]⟩) ∨
  (Fl.rg x < 9218868437227405312 ∧ ∃ m t : Nat, m % 2 = 1 ∧ Fl.Nv (Fl.rg x) = m * 2 ^ t ∧ m < 9223372036854775808 ∧ t < 4000 ∧ s = sgnS x ++ ⟨(Lib.decDigits m).toArray⟩ ++ ⟨#[112]⟩ ++ ⟨(Lib.itoa ((t : Int) - 1074)).toArray⟩)

theorem order_nil {x : Nat} (h : Fl.rg x < 9218868437227405312) : (FloatKind.f64.format.order x 0 == some .eq) = (Fl.rg x == 0) := by
  have h0 : Fl.fin 0 := fin_nat (by omega)
  have ho : FloatKind.f64.format.order x 0 = _ := Fl.order_fin (x := x) (y := 0) h h0
  rw [ho, show Fl.Zv 0 = 0 by decide]
  by_cases hz : Fl.rg x = 0
  · have : Fl.Zv x = 0 := by unfold Fl.Zv; rw [hz, show Fl.Nv 0 = 0 by decide]; split <;> rfl
    rw [this, hz, Int.compare_eq_eq.2 rfl]; rfl
  · have hp : 0 < Fl.Nv (Fl.rg x) := by
      have := Fl.Nv_lt (r := 0) (r' := Fl.rg x) (by omega); omega
    have hne : Fl.Zv x ≠ 0 := by unfold Fl.Zv; split <;> omega
    rw [beq_eq_false_iff_ne.2 hz]
    rcases Int.lt_trichotomy (Fl.Zv x) 0 with h1 | h1 | h1
    · rw [Int.compare_eq_lt.2 h1]; rfl
    · exact absurd h1 hne
    · rw [Int.compare_eq_gt.2 h1]; rfl

set_option maxHeartbeats 6400000 in
set_option maxRecDepth 100000 in
theorem Text_any (a : Int) (w : World) (hT : TzTab w) (hP : PowTab w) :
    Calls Tryd.prog 20 #[.int .i64 a] w fun e w' => ∃ s, TextIs (bitsOf a) s ∧ e = .returned (.string s) ∧ Touch [] w w' := by
  obtain ⟨x, hx⟩ : ∃ x, bitsOf a = x := ⟨_, rfl⟩
  have hlt : x < 18446744073709551616 := by rw [← hx]; exact bitsOf_lt a
  have hN := number_any a
  rw [hx] at hN ⊢
  clear hx
  have hsx : sgnS x = if Fl.sg x then ⟨#[45]⟩ else ⟨#[]⟩ := rfl
  have ho := order_self x
  have HT := Lib.hid hT
  have HP := Lib.hid hP
  have HX := Lib.hid hlt
  clear hT hP hlt
  have hor : FloatKind.f64.format.order x x = Ieee.double.order x x := rfl
  obtain ⟨sx, hse⟩ : ∃ sx, sgnS x = sx := ⟨_, rfl⟩
  by_cases hnan : nanB x
  · rw [if_pos hnan] at ho
    rw [ho] at hor
    have hw : (FloatKind.f64.format.order x x != some .eq) = true := by rw [hor]; rfl
    have HR : Hid (TextIs x ⟨#[110, 97, 110]⟩) := .inl ⟨hnan, rfl⟩
    clear ho hor hnan hsx hse
    rcases hs : Fl.sg x with _ | _
    all_goals
      go_enter Tryd.func20, Tryd.ntmps20
      go_wp2_with fail
      refine (hN _).mono ?_
      rintro _ _ ⟨rfl, rfl⟩
      go_wp2_with fail
      refine (signbit_any x HX.out _).mono ?_
      rintro _ _ ⟨rfl, rfl⟩
      go_wp2_with fail
      go_ret
      exact ⟨_, HR.out, rfl, Touch.refl _ _⟩
  · rw [if_neg hnan] at ho
    rw [ho] at hor
    have hw : (FloatKind.f64.format.order x x != some .eq) = false := by rw [hor]; rfl
    have hn2 : Fl.rg x ≤ 9218868437227405312 := by unfold nanB at hnan; omega
    clear ho hor hnan
    by_cases hinf : Fl.rg x = 9218868437227405312
    · have HR : Hid (TextIs x (sx ++ ⟨#[105, 110, 102]⟩)) := .inr (.inl ⟨hinf, by rw [hse]⟩)
      have hi : (Fl.rg x == 9218868437227405312) = true := by rw [hinf]; rfl
      clear hinf hn2
      rcases hs : Fl.sg x with _ | _
      all_goals
        rw [hs] at hsx
        rw [hse] at hsx
        have hsx' : sx = _ := hsx
        subst hsx'
        clear hse
        go_enter Tryd.func20, Tryd.ntmps20
        go_wp2_with fail
        refine (hN _).mono ?_
        rintro _ _ ⟨rfl, rfl⟩
        go_wp2_with fail
        refine (signbit_any x HX.out _).mono ?_
        rintro _ _ ⟨rfl, rfl⟩
        go_wp2_with fail
        refine (isInf_any x HX.out _).mono ?_
        rintro _ _ ⟨rfl, rfl⟩
        go_wp2_with fail
        go_ret
        exact ⟨_, HR.out, rfl, Touch.refl _ _⟩
    · have hi : (Fl.rg x == 9218868437227405312) = false := beq_eq_false_iff_ne.2 hinf
      have hfin : Fl.rg x < 9218868437227405312 := by omega
      have hz := order_nil hfin
      have HF := Lib.hid hfin
      clear hinf hn2
      by_cases hzero : Fl.rg x = 0
      · have HR : Hid (TextIs x (sx ++ ⟨#[48]⟩ ++ ⟨#[112]⟩ ++ ⟨#[48]⟩)) := .inr (.inr (.inl ⟨hzero, by rw [hse]⟩))
        rw [hzero] at hz
        have hz' : (FloatKind.f64.format.order x 0 == some .eq) = true := hz
        clear hfin hzero hz
        rcases hs : Fl.sg x with _ | _
        all_goals
          rw [hs] at hsx
          rw [hse] at hsx
          have hsx' : sx = _ := hsx
          subst hsx'
          clear hse
          go_enter Tryd.func20, Tryd.ntmps20
          go_wp2_with fail
          refine (hN _).mono ?_
          rintro _ _ ⟨rfl, rfl⟩
          go_wp2_with fail
          refine (signbit_any x HX.out _).mono ?_
          rintro _ _ ⟨rfl, rfl⟩
          go_wp2_with fail
          refine (isInf_any x HX.out _).mono ?_
          rintro _ _ ⟨rfl, rfl⟩
          go_wp2_with fail
          go_ret
          exact ⟨_, HR.out, rfl, Touch.refl _ _⟩
      · rw [beq_eq_false_iff_ne.2 hzero] at hz
        have HR : Hid (∀ m t : Nat, m % 2 = 1 → Fl.Nv (Fl.rg x) = m * 2 ^ t → m < 9223372036854775808 → t < 4000 → TextIs x (sx ++ ⟨(Lib.decDigits m).toArray⟩ ++ ⟨#[112]⟩ ++ ⟨(Lib.itoa ((t : Int) - 1074)).toArray⟩)) :=
          fun m t h1 h2 h3 h4 => .inr (.inr (.inr ⟨hfin, m, t, h1, h2, h3, h4, by rw [hse]⟩))
        have HO : Hid (0 < Fl.rg x) := Nat.pos_of_ne_zero hzero
        clear hfin hzero
        rcases hs : Fl.sg x with _ | _
        all_goals
          rw [hs] at hsx
          rw [hse] at hsx
          have hsx' : sx = _ := hsx
          subst hsx'
          clear hse
          go_enter Tryd.func20, Tryd.ntmps20
          go_wp2_with fail
          refine (hN _).mono ?_
          rintro _ _ ⟨rfl, rfl⟩
          go_wp2_with fail
          refine (signbit_any x HX.out _).mono ?_
          rintro _ _ ⟨rfl, rfl⟩
          go_wp2_with fail
          refine (isInf_any x HX.out _).mono ?_
          rintro _ _ ⟨rfl, rfl⟩
          go_wp2_with fail
          refine (odd_any (Fl.rg x) HF.out HO.out x HX.out rfl _ HT.out).mono ?_
          rintro _ _ ⟨⟨m, t, h1, h2, h3, rfl⟩, rfl⟩
          have h4 := t_bound HF.out h1 h2
          have HR2 := HR.out m t h1 h2 h3 h4
          have HU := fun W => formatUint_any m (by omega) W
          have HI := fun W => Tryd.strconv_Itoa ((t : Int) - 1074) (by omega) (by omega) W
          have hz1 := dec_size m (by omega)
          have hz2 := itoa_size ((t : Int) - 1074) (by omega) (by omega)
          obtain ⟨sm, hsm⟩ : ∃ sm : ByteArray, ⟨(Lib.decDigits m).toArray⟩ = sm := ⟨_, rfl⟩
          obtain ⟨st, hst⟩ : ∃ st : ByteArray, ⟨(Lib.itoa ((t : Int) - 1074)).toArray⟩ = st := ⟨_, rfl⟩
          simp only [hsm, hst] at HR2 hz1 hz2 HU HI
          have HR3 := Lib.hid HR2
          clear h1 h2 HR HR2 hsm hst
          go_wp2_with fail
          refine (HU _ HP.out).mono ?_
          rintro _ w1 ⟨rfl, ht1⟩
          go_wp2_with fail
          refine (HI _ (tab_touch HP.out ht1)).mono ?_
          rintro _ _ ⟨rfl, k, os, rfl⟩
          have ht2 := ht1.trans (touch_grow w1 k os) (by simp)
          obtain ⟨w2, hw2⟩ : ∃ w2, grow (w1.drewN k) os = w2 := ⟨_, rfl⟩
          rw [hw2] at ht2 ⊢
          go_wp2_with fail
          go_ret
          exact ⟨_, HR3.out, rfl, ht2⟩

end Go.Proofs.YtibifcchmccknaaDoor
