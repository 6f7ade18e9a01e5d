import Derived.Test.YtkbchpaofmlhgaaGreatDoorJOpsA
import Derived.Test.YtkbchpaofmlhgaaGreatDoorJSaysA
import Derived.Test.YtkbchpaofmlhgaaGreatDoorJRlB
/- prim's operations that read tables: a real number as text, all of the stack as text. -/
namespace Go.Proofs.YtkbchpaofmlhgaaGreatDoor
open Go.RowKit

namespace Rl
theorem odd_lt (m m' a b : Nat) (hm : m % 2 = 1) (hab : a < b) (h : m * 2 ^ a = m' * 2 ^ b) : False := by
  obtain ⟨c, rfl⟩ : ∃ c, b = a + (c + 1) := ⟨b - a - 1, by omega⟩
  rw [Nat.pow_add, Nat.mul_left_comm, Nat.mul_comm m] at h
  have h2 := Nat.eq_of_mul_eq_mul_left (Nat.two_pow_pos a) h
  rw [Nat.pow_succ, ← Nat.mul_assoc] at h2
  omega
theorem odd_uniq2 (m m' a b : Nat) (hm : m % 2 = 1) (hm' : m' % 2 = 1) (h : m * 2 ^ a = m' * 2 ^ b) : m = m' ∧ a = b := by
  rcases Nat.lt_trichotomy a b with h1 | h1 | h1
  · exact (odd_lt m m' a b hm h1 h).elim
  · subst h1
    exact ⟨Nat.eq_of_mul_eq_mul_right (Nat.two_pow_pos a) h, rfl⟩
  · exact (odd_lt m' m b a hm' h1 h.symm).elim
theorem text_uniq (x : Nat) (s s' : ByteArray) (h : TextIs x s) (h' : TextIs x s') : s = s' := by
  have hz : ∀ m t : Nat, Fl.rg x = 0 → m % 2 = 1 → Fl.Nv (Fl.rg x) = m * 2 ^ t → False := fun m t h0 hm hv => by
    rw [h0, show Fl.Nv 0 = 0 by decide] at hv
    have := Nat.mul_pos (show 0 < m by omega) (Nat.two_pow_pos t)
    omega
  unfold TextIs nanB at h h'
  rcases h with ⟨a1, rfl⟩ | ⟨a1, rfl⟩ | ⟨a1, rfl⟩ | ⟨a1, m, t, a2, a3, _, _, rfl⟩ <;> rcases h' with ⟨b1, rfl⟩ | ⟨b1, rfl⟩ | ⟨b1, rfl⟩ | ⟨b1, m', t', b2, b3, _, _, rfl⟩
  all_goals first
    | rfl
    | (exfalso; omega)
    | exact (hz _ _ a1 b2 b3).elim
    | exact (hz _ _ b1 a2 a3).elim
    | skip
  obtain ⟨rfl, rfl⟩ := odd_uniq2 m m' t t' a2 b2 (by rw [← a3, ← b3])
  rfl
theorem sgnS_size (x : Nat) : (sgnS x).size ≤ 1 := by
  unfold sgnS
  split <;> decide
theorem text_size (x : Nat) (s : ByteArray) (h : TextIs x s) : s.size ≤ 100 := by
  have h0 := sgnS_size x
  unfold TextIs at h
  rcases h with ⟨_, rfl⟩ | ⟨_, rfl⟩ | ⟨_, rfl⟩ | ⟨_, m, t, _, _, hm, ht, rfl⟩
  · decide
  · rw [ByteArray.size_append]
    show (sgnS x).size + 3 ≤ 100
    omega
  · rw [ByteArray.size_append, ByteArray.size_append, ByteArray.size_append]
    show (sgnS x).size + 1 + 1 + 1 ≤ 100
    omega
  · have h1 := dec_size m (by omega)
    have h2 := itoa_size ((t : Int) - 1074) (by omega) (by omega)
    rw [ByteArray.size_append, ByteArray.size_append, ByteArray.size_append]
    show (sgnS x).size + _ + 1 + _ ≤ 100
    omega
theorem TzTab.touch {w w' : World} (h : TzTab w) (ht : Touch [] w w') : TzTab w' := by
  intro j hj
  have hc := h j hj
  have hlt : 3 < w.heap.size := by
    rcases Nat.lt_or_ge 3 w.heap.size with h' | h'
    · exact h'
    · rw [World.cell?] at hc
      simp [Array.getElem?_eq_none h'] at hc
  rw [ht.cell (p := ⟨3, j, none⟩) hlt (by simp)]
  exact hc
open Classical in
/-- a cell's text as a real number -/
noncomputable def textR (a : Int) : ByteArray := if h : ∃ s, TextIs (bitsOf a) s then h.choose else .empty
theorem text_at (a : Int) (w : World) (hT : TzTab w) (hP : PowTab w) : Calls Tryz.prog 169 #[.int .i64 a] w fun e w' => e = .returned (.string (textR a)) ∧ (textR a).size ≤ 100 ∧ Touch [] w w' := by
  refine (Text_any a w hT hP).mono ?_
  rintro _ w' ⟨s, hs, rfl, t⟩
  have h : ∃ s, TextIs (bitsOf a) s := ⟨s, hs⟩
  have e : textR a = s := by
    unfold textR
    rw [dif_pos h]
    exact text_uniq _ _ _ h.choose_spec hs
  exact ⟨by rw [e], by rw [e]; exact text_size _ _ hs, t⟩
end Rl
/-- both tables -/
structure Tabs (w : World) : Prop where
  tz : Rl.TzTab w
  pow : Rl.PowTab w
theorem Tabs.touch {w w' : World} (h : Tabs w) (t : Touch [] w w') : Tabs w' := ⟨h.tz.touch t, Rl.tab_touch h.pow t⟩
set_option maxHeartbeats 1000000 in
theorem rdot_semT (w0 : World) (hT : Tabs w0) : OpSemT w0 94 1 (fun _ _ => True) (fun l S => (([], 0), { S with out := sayL S.out (Rl.textR (l.getD 0 0) ++ ⟨#[32]⟩) })) := by
  intro W B s F S t f first cap l lv ht hok hS hF hfd
  obtain ⟨b, C, hC, hb, hA, hB⟩ := found_says hfd rfl rfl
  obtain ⟨g, hg0, hg, hA⟩ := (hA : SayAct C 1 b (.func (.func 168) #[] #[]) _ W)
  obtain ⟨g2, _, hg2, rfl, rfl, rfl, rfl⟩ := act_open hA (Nat.zero_le _)
  refine ⟨rfl, enters_of Tryz.func220 (by kernel_rfl) rfl, fun hl hpre hc => ActDone.post (tells_clo hg2 (enters_of Tryz.func164 (by kernel_rfl) rfl) (say_fn hS hok hB hg (enters_of Tryz.func168 (by kernel_rfl) rfl) ?_))⟩
  obtain ⟨ad, c, x, rfl, rfl, hx⟩ := hc.one hl
  simp only [List.getD_cons_zero]
  have x0 := cell_quiet ((Touch.refl [] W).drew) hx
  have hD := hT.touch (ht.trans ((Touch.refl [] W).drew) (by simp))
  have hR := Rl.text_at x W.drew hD.tz hD.pow
  obtain ⟨T, hTx⟩ : ∃ T, Rl.textR x = T := ⟨_, rfl⟩
  rw [hTx] at hR ⊢
  clear hS hB hA hg hfd hc hx hF hg2 hg0 hD hTx ht hT
  show Calls Tryz.prog 168 #[.slice (some ⟨ad, 0, none⟩) 1 c] W.drew _
  go_enter Tryz.func168, Tryz.ntmps168
  go_wp2_with fail
  refine hR.mono ?_
  rintro _ w1 ⟨rfl, hsz, t1⟩
  have T1 := Lib.hid t1
  clear hR t1
  go_wp2_with fail
  go_ret
  exact ⟨rfl, T1.out⟩
/-- all of the stack -/
def hdrT (n : Nat) : ByteArray := ⟨#[60]⟩ ++ ⟨(Lib.itoa (n : Int)).toArray⟩ ++ ⟨#[62]⟩ ++ ⟨#[32]⟩
def showL (B : Nat) (out : List Int) (l : List Int) : List Int := l.foldl (fun o x => sayL o (sgnT B (numP (ofP x)))) out
def showF (_ : List Int) (S : PS) : (List Int × Int) × PS := (([], if 2 ≤ S.base ∧ S.base ≤ 36 then 0 else -40), { S with out := if 2 ≤ S.base ∧ S.base ≤ 36 then showL S.baseN (sayL S.out (hdrT S.st.length)) S.st else S.out })
theorem sayL_le (o : List Int) (t : ByteArray) (h : o.length ≤ 4000) : (sayL o t).length ≤ 4000 := by
  unfold sayL
  simp
  omega
theorem showL_take (B : Nat) (out l : List Int) (i : Nat) (h : i < l.length) : showL B out (l.take (i + 1)) = sayL (showL B out (l.take i)) (sgnT B (numP (ofP (l.getD i 0)))) := by
  unfold showL
  rw [List.take_add_one, List.foldl_append]
  simp [List.getD, h]
theorem showL_le (B : Nat) (out l : List Int) (h : out.length ≤ 4000) : (showL B out l).length ≤ 4000 := by
  unfold showL
  induction l generalizing out with
  | nil => exact h
  | cons x l ih => exact ih _ (sayL_le _ _ h)
end Go.Proofs.YtkbchpaofmlhgaaGreatDoor
