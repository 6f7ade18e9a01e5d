import Derived.Test.YtkbchpaofmlhgaaGreatDoorJOpAll
import Derived.Test.YtkbchpaofmlhgaaGreatDoorJShowOp
import Derived.Test.YtkbchpaofmlhgaaGreatDoorJDigSem
import Derived.Test.YtkbchpaofmlhgaaGreatDoorJDoesA
/- Each of prim's operations is fair: those that tell, and those that make a number; any number at all. -/
namespace Go.Proofs.YtkbchpaofmlhgaaGreatDoor
open Go.RowKit

theorem OpSemT.any {w0 : World} {op : Int} {n : Nat} {pre : List Int → PS → Prop} {act : Act} (h : OpSemT w0 op n pre act) (h1 : 43 ≤ op) (h2 : op ≤ 107) (h3 : op < 61 ∨ 70 < op) (hn : n ≤ 4) (hf : Fair n act) (hL : op ≠ 99 → Likes act)
    (hp : ∀ l S, l.length = n → S.n = 1024 → S.st.length ≤ 128 → (∀ x ∈ S.st, Cell64 x) → (∀ x ∈ l, Cell64 x) → pre l S) : OpAny w0 op :=
  ⟨n, pre, act, hn, hf, hL, hp, fun w s F S hS hF0 ht0 hok hst hpre => Do_semT w0 op n pre act h h1 h2 h3 hn w s F S hS hF0 ht0 hok hst hpre⟩
theorem nz0 : (0 : Int) ≠ 1 := by decide
theorem nz17 : (-17 : Int) ≠ 1 := by decide
theorem nz40 : (-40 : Int) ≠ 1 := by decide
theorem fair_say (n : Nat) (f : List Int → ByteArray) : Fair n (fun l S => (([], 0), { S with out := sayL S.out (f l) })) ∧ Likes (fun l S => (([], 0), { S with out := sayL S.out (f l) })) :=
  ⟨⟨fun _ _ => nz0, fun _ _ h => absurd rfl h, fun _ _ => rfl, fun _ _ => Nat.zero_le _, .inl (fun _ _ => Nat.zero_le _), fun _ _ => rfl⟩, fun _ S T h => ⟨rfl, by simp only [h.out]⟩⟩
theorem Alike.base {S T : PS} (h : Alike S T) : S.base = T.base := by unfold PS.base; rw [h.bs]
theorem numbF_fair (p : Int × Int) (S : PS) : (numbF p S).1 ≠ 1 ∧ ((numbF p S).1 ≠ 0 → (numbF p S).2 = S) ∧ (numbF p S).2.st = S.st ∧ (numbF p S).2.n = S.n := by
  unfold numbF
  split
  · exact ⟨by simp, fun h => absurd rfl h, rfl, rfl⟩
  · exact ⟨by simp, fun _ => rfl, rfl, rfl⟩
theorem numbF_like (p : Int × Int) {S T : PS} (h : Alike S T) : (numbF p S).1 = (numbF p T).1 ∧ (numbF p S).2.out = (numbF p T).2.out := by
  unfold numbF PS.baseN
  rw [h.base]
  split
  · exact ⟨rfl, by simp only [h.out]⟩
  · exact ⟨rfl, h.out⟩
theorem fair_numb (n : Nat) (p : List Int → Int × Int) : Fair n (fun l S => (([], (numbF (p l) S).1), (numbF (p l) S).2)) ∧ Likes (fun l S => (([], (numbF (p l) S).1), (numbF (p l) S).2)) :=
  ⟨⟨fun l S => (numbF_fair (p l) S).1, fun l S h => by
    have h2 := (numbF_fair (p l) S).2.1 h
    simp only [h2]
    exact ⟨trivial, trivial, trivial⟩, fun l S => (numbF_fair (p l) S).2.2.1, fun _ _ => Nat.zero_le _, .inl (fun _ _ => Nat.zero_le _), fun l S => (numbF_fair (p l) S).2.2.2⟩, fun l S T h => ⟨by
    have h2 := numbF_like (p l) h
    simp only [h2.1], (numbF_like (p l) h).2⟩⟩
theorem sayL_none (o : List Int) : sayL o .empty = o := by
  unfold sayL
  have e : strL .empty = [] := by decide
  rw [e]
  simp
theorem textV_bad {bs : List Int} {n : Nat} {p k : Int} (h : pieE n p k ≠ 0) : textV bs n p k = .empty := by
  unfold textV
  unfold pieE at h
  split
  · rename_i hk
    rw [if_pos hk] at h
    exact absurd rfl h
  · rfl
theorem fair_type : Fair 2 (fun l S => (([], pieE S.n (l.getD 0 0) (l.getD 1 0)), { S with out := sayL S.out (textV S.bs S.n (l.getD 0 0) (l.getD 1 0)) })) ∧ Likes (fun l S => (([], pieE S.n (l.getD 0 0) (l.getD 1 0)), { S with out := sayL S.out (textV S.bs S.n (l.getD 0 0) (l.getD 1 0)) })) :=
  ⟨⟨fun l S => pieE_no _ _ _, fun l S h => ⟨rfl, rfl, by
    show sayL S.out (textV S.bs S.n (l.getD 0 0) (l.getD 1 0)) = S.out
    rw [textV_bad h, sayL_none]⟩, fun _ _ => rfl, fun _ _ => Nat.zero_le _, .inl (fun _ _ => Nat.zero_le _), fun _ _ => rfl⟩, fun l S T h => ⟨by simp only [h.n], by simp only [h.n, h.bs, h.out]⟩⟩
theorem fair_show : Fair 0 showF := by
  refine ⟨fun l S => ?_, fun l S h => ?_, fun _ _ => rfl, fun _ _ => Nat.zero_le _, .inl (fun _ _ => Nat.le_refl _), fun _ _ => rfl⟩
  · show (if 2 ≤ S.base ∧ S.base ≤ 36 then (0 : Int) else -40) ≠ 1
    split <;> decide
  · have hb : ¬ (2 ≤ S.base ∧ S.base ≤ 36) := fun hb => h (if_pos hb)
    exact ⟨rfl, rfl, if_neg hb⟩
/-- what makes a number: nothing else turns -/
theorem fair_made (n : Nat) (act : Act) (h : ∀ l S, (act l S).1.2 ≠ 1 ∧ (act l S).1.1.length ≤ n ∧ (act l S).1.1.length ≤ 2 ∧ ∃ m, (act l S).2 = { S with made := m }) : Fair n act := by
  refine ⟨fun l S => (h l S).1, fun l S _ => ?_, fun l S => ?_, fun l S => (h l S).2.2.1, .inl fun l S => (h l S).2.1, fun l S => ?_⟩
  · obtain ⟨m, e⟩ := (h l S).2.2.2
    rw [e]
    exact ⟨rfl, rfl, rfl⟩
  · obtain ⟨m, e⟩ := (h l S).2.2.2
    rw [e]
  · obtain ⟨m, e⟩ := (h l S).2.2.2
    rw [e]
theorem fair_begin : Fair 0 (fun _ S => (([], 0), { S with made := [] })) ∧ Likes (fun _ S => (([], 0), { S with made := [] })) :=
  ⟨fair_made 0 _ fun _ _ => ⟨by first | exact nz0 | exact nz17 | exact nz40, Nat.le_refl _, Nat.zero_le _, _, rfl⟩, fun _ _ _ h => ⟨rfl, h.out⟩⟩
theorem fair_hold : Fair 1 holdF ∧ Likes holdF := by
  refine ⟨fair_made 1 _ fun l S => ?_, fun l S T h => ?_⟩
  · unfold holdF
    split
    · exact ⟨by first | exact nz0 | exact nz17 | exact nz40, Nat.zero_le _, Nat.zero_le _, _, rfl⟩
    · exact ⟨by first | exact nz0 | exact nz17 | exact nz40, Nat.zero_le _, Nat.zero_le _, S.made, rfl⟩
  · unfold holdF
    rw [h.made]
    split
    · exact ⟨rfl, h.out⟩
    · exact ⟨rfl, h.out⟩
theorem fair_sign : Fair 1 signF ∧ Likes signF := by
  refine ⟨fair_made 1 _ fun l S => ?_, fun l S T h => ?_⟩
  · unfold signF
    split
    · split
      · exact ⟨by first | exact nz0 | exact nz17 | exact nz40, Nat.zero_le _, Nat.zero_le _, _, rfl⟩
      · exact ⟨by first | exact nz0 | exact nz17 | exact nz40, Nat.zero_le _, Nat.zero_le _, S.made, rfl⟩
    · exact ⟨by first | exact nz0 | exact nz17 | exact nz40, Nat.zero_le _, Nat.zero_le _, S.made, rfl⟩
  · unfold signF
    rw [h.made]
    split
    · split
      · exact ⟨rfl, h.out⟩
      · exact ⟨rfl, h.out⟩
    · exact ⟨rfl, h.out⟩
theorem fair_dig (all : Bool) : Fair 2 (digF all) ∧ Likes (digF all) := by
  refine ⟨fair_made 2 _ fun l S => ?_, fun l S T h => ?_⟩
  · unfold digF
    split
    · exact ⟨by first | exact nz0 | exact nz17 | exact nz40, Nat.le_refl _, Nat.le_refl _, S.made, rfl⟩
    · split
      · split
        · exact ⟨by first | exact nz0 | exact nz17 | exact nz40, Nat.le_refl _, Nat.le_refl _, _, rfl⟩
        · exact ⟨by first | exact nz0 | exact nz17 | exact nz40, Nat.le_refl _, Nat.le_refl _, S.made, rfl⟩
      · split
        · exact ⟨by first | exact nz0 | exact nz17 | exact nz40, Nat.le_refl _, Nat.le_refl _, _, rfl⟩
        · exact ⟨by first | exact nz0 | exact nz17 | exact nz40, Nat.le_refl _, Nat.le_refl _, S.made, rfl⟩
  · unfold digF
    rw [h.made, h.base]
    split
    · exact ⟨rfl, h.out⟩
    · split
      · split
        · exact ⟨rfl, h.out⟩
        · exact ⟨rfl, h.out⟩
      · split
        · exact ⟨rfl, h.out⟩
        · exact ⟨rfl, h.out⟩
theorem fair_end : Fair 2 (fun _ S => (([((768 - S.made.length : Nat) : Int), (S.made.length : Int)], 0), { S with bs := wrtL S.bs (768 - S.made.length) S.made.reverse })) ∧ Likes (fun _ S => (([((768 - S.made.length : Nat) : Int), (S.made.length : Int)], 0), { S with bs := wrtL S.bs (768 - S.made.length) S.made.reverse })) :=
  ⟨⟨fun _ _ => nz0, fun _ _ h => absurd rfl h, fun _ _ => rfl, fun _ _ => Nat.le_refl _, .inl (fun _ _ => Nat.le_refl _), fun _ _ => rfl⟩, fun _ S T h => ⟨by simp only [h.made], h.out⟩⟩
theorem any90 (w0 : World) : OpAny w0 90 := emit_tot.any (by decide) (by decide) (by decide) (by decide) (fair_say 1 _).1 (fun _ => (fair_say 1 _).2) (fun _ _ _ _ _ => trivial)
theorem any91 (w0 : World) : OpAny w0 91 := dot_tot.any (by decide) (by decide) (by decide) (by decide) (fair_numb 1 fun l => ofP (l.getD 0 0)).1 (fun _ => (fair_numb 1 fun l => ofP (l.getD 0 0)).2) (fun _ _ _ _ h => h)
theorem any92 (w0 : World) : OpAny w0 92 := udot_tot.any (by decide) (by decide) (by decide) (by decide) (fair_numb 1 fun l => (l.getD 0 0, 0)).1 (fun _ => (fair_numb 1 fun l => (l.getD 0 0, 0)).2) (fun _ _ _ _ h => h)
theorem any93 (w0 : World) : OpAny w0 93 := ddot_tot.any (by decide) (by decide) (by decide) (by decide) (fair_numb 2 fun l => (l.getD 0 0, l.getD 1 0)).1 (fun _ => (fair_numb 2 fun l => (l.getD 0 0, l.getD 1 0)).2) (fun _ _ _ _ h => h)
theorem any94 (w0 : World) (hT : Tabs w0) : OpAny w0 94 := (rdot_semT w0 hT).any (by decide) (by decide) (by decide) (by decide) (fair_say 1 fun l => Rl.textR (l.getD 0 0) ++ ⟨#[32]⟩).1 (fun _ => (fair_say 1 fun l => Rl.textR (l.getD 0 0) ++ ⟨#[32]⟩).2) (fun _ _ _ _ _ _ _ => trivial)
theorem any95 (w0 : World) : OpAny w0 95 := cr_tot.any (by decide) (by decide) (by decide) (by decide) (fair_say 0 fun _ => ⟨#[10]⟩).1 (fun _ => (fair_say 0 fun _ => ⟨#[10]⟩).2) (fun _ _ _ _ _ => trivial)
theorem any96 (w0 : World) : OpAny w0 96 := space_tot.any (by decide) (by decide) (by decide) (by decide) (fair_say 0 fun _ => ⟨#[32]⟩).1 (fun _ => (fair_say 0 fun _ => ⟨#[32]⟩).2) (fun _ _ _ _ _ => trivial)
theorem any97 (w0 : World) : OpAny w0 97 := spaces_sem.any (by decide) (by decide) (by decide) (by decide) (fair_say 1 _).1 (fun _ => (fair_say 1 _).2) (fun _ _ _ _ _ => trivial)
theorem any98 (w0 : World) : OpAny w0 98 := type_tot.any (by decide) (by decide) (by decide) (by decide) fair_type.1 (fun _ => fair_type.2) (fun _ _ _ _ _ => trivial)
theorem any99 (w0 : World) (hT : Tabs w0) : OpAny w0 99 := (show_semT w0 hT).any (by decide) (by decide) (by decide) (by decide) fair_show (fun h => absurd rfl h) (fun _ _ _ _ h k _ => ⟨h, k⟩)
theorem any102 (w0 : World) : OpAny w0 102 := begin_sem.any (by decide) (by decide) (by decide) (by decide) fair_begin.1 (fun _ => fair_begin.2) (fun _ _ _ _ _ => trivial)
theorem any103 (w0 : World) : OpAny w0 103 := (dig_sem 103 false rfl rfl (fun _ _ _ _ _ h => h)).any (by decide) (by decide) (by decide) (by decide) (fair_dig false).1 (fun _ => (fair_dig false).2) (fun _ _ _ _ h => h)
theorem any104 (w0 : World) : OpAny w0 104 := (dig_sem 104 true rfl rfl (fun _ _ _ _ _ h => h)).any (by decide) (by decide) (by decide) (by decide) (fair_dig true).1 (fun _ => (fair_dig true).2) (fun _ _ _ _ h => h)
theorem any105 (w0 : World) : OpAny w0 105 := hold_sem.any (by decide) (by decide) (by decide) (by decide) fair_hold.1 (fun _ => fair_hold.2) (fun _ _ _ _ _ => trivial)
theorem any106 (w0 : World) : OpAny w0 106 := sign_sem.any (by decide) (by decide) (by decide) (by decide) fair_sign.1 (fun _ => fair_sign.2) (fun _ _ _ _ _ => trivial)
theorem any107 (w0 : World) : OpAny w0 107 := end_sem.any (by decide) (by decide) (by decide) (by decide) fair_end.1 (fun _ => fair_end.2) (fun _ _ _ h _ => h)
/-- all but the stack's words -/
theorem op_any (w0 : World) (hT : Tabs w0) (op : Int) (h : (1 ≤ op ∧ op ≤ 27) ∨ (43 ≤ op ∧ op ≤ 107)) : OpAny w0 op := by
  rcases h with h | h
  · by_cases h1 : op ≤ 10
    · exact cell1_any w0 op (by unfold manyF; rw [if_pos ⟨h.1, h1⟩])
    · exact cell2_any w0 op (by unfold manyF; rw [if_neg (by omega), if_pos (by omega)])
  · by_cases hr : 61 ≤ op ∧ op ≤ 70
    · exact real_any w0 op hr
    rcases (by omega : op = 43 ∨ op = 44 ∨ op = 45 ∨ op = 46 ∨ op = 47 ∨ op = 48 ∨ op = 49 ∨ op = 50 ∨ op = 51 ∨ op = 52 ∨ op = 53 ∨ op = 54 ∨ op = 55 ∨ op = 56 ∨ op = 57 ∨ op = 58 ∨ op = 59 ∨ op = 60 ∨ op = 71 ∨ op = 72 ∨ op = 73 ∨ op = 74 ∨ op = 75 ∨ op = 76 ∨ op = 77 ∨ op = 78 ∨ op = 79 ∨ op = 80 ∨ op = 81 ∨ op = 82 ∨ op = 83 ∨ op = 84 ∨ op = 85 ∨ op = 86 ∨ op = 87 ∨ op = 88 ∨ op = 89 ∨ op = 90 ∨ op = 91 ∨ op = 92 ∨ op = 93 ∨ op = 94 ∨ op = 95 ∨ op = 96 ∨ op = 97 ∨ op = 98 ∨ op = 99 ∨ op = 100 ∨ op = 101 ∨ op = 102 ∨ op = 103 ∨ op = 104 ∨ op = 105 ∨ op = 106 ∨ op = 107) with rfl | rfl | rfl | rfl | rfl | rfl | rfl | rfl | rfl | rfl | rfl | rfl | rfl | rfl | rfl | rfl | rfl | rfl | rfl | rfl | rfl | rfl | rfl | rfl | rfl | rfl | rfl | rfl | rfl | rfl | rfl | rfl | rfl | rfl | rfl | rfl | rfl | rfl | rfl | rfl | rfl | rfl | rfl | rfl | rfl | rfl | rfl | rfl | rfl | rfl | rfl | rfl | rfl | rfl | rfl
    · exact any43 w0
    · exact any44 w0
    · exact any45 w0
    · exact any46 w0
    · exact any47 w0
    · exact any48 w0
    · exact any49 w0
    · exact any50 w0
    · exact any51 w0
    · exact any52 w0
    · exact any53 w0
    · exact any54 w0
    · exact any55 w0
    · exact any56 w0
    · exact any57 w0
    · exact any58 w0
    · exact any59 w0
    · exact any60 w0
    · exact any71 w0
    · exact any72 w0
    · exact any73 w0
    · exact any74 w0
    · exact any75 w0
    · exact any76 w0
    · exact any77 w0
    · exact any78 w0
    · exact any79 w0
    · exact any80 w0
    · exact any81 w0
    · exact any82 w0
    · exact any83 w0
    · exact any84 w0
    · exact any85 w0
    · exact any86 w0
    · exact any87 w0
    · exact any88 w0
    · exact any89 w0
    · exact any90 w0
    · exact any91 w0
    · exact any92 w0
    · exact any93 w0
    · exact any94 w0 hT
    · exact any95 w0
    · exact any96 w0
    · exact any97 w0
    · exact any98 w0
    · exact any99 w0 hT
    · exact any100 w0
    · exact any101 w0
    · exact any102 w0
    · exact any103 w0
    · exact any104 w0
    · exact any105 w0
    · exact any106 w0
    · exact any107 w0
end Go.Proofs.YtkbchpaofmlhgaaGreatDoor
