/- digit.Number: the whole function. -/
import Derived.Test.YtgdmiodcfdcihaaGreatDoorDigits
namespace Go.Proofs.YtgdmiodcfdcihaaGreatDoor
open Go.RowKit

def numTail (l : List UInt8) (base : Int) : (Int × Int) × Int :=
  let l1 := Lib.trimPrefix l [45]
  let l2 := Lib.trimSuffix l1 [46]
  let a := acceptP (0, 0) base l2
  if l2 = [] ∨ 0 < a.2 then ((0, 0), 0)
  else
    let p := if Lib.hasPrefix l [45] = true then negP a.1 else a.1
    if Lib.hasSuffix l1 [46] = true then (p, 2) else ((p.1, 0), 1)
/-- the number that a text is, and its kind -/
def numF (s : ByteArray) (base : Int) : (Int × Int) × Int :=
  match s.data.toList with
  | [] => ((0, 0), 0)
  | c :: l => if 0 < basesF c.toNat then numTail l (basesF c.toNat) else numTail (c :: l) base

theorem trimP_len (l m : List UInt8) : (Lib.trimPrefix l m).length ≤ l.length := by
  unfold Lib.trimPrefix
  split <;> simp
theorem trimS_len (l m : List UInt8) : (Lib.trimSuffix l m).length ≤ l.length := by
  unfold Lib.trimSuffix
  split <;> simp

/-- what is stored as a result, behind one block more -/
theorem two_over {w : World} {g : Nat} {t : TypeId} {a b : Value} (h : Blk w g t #[a, b]) (x y : Value) (o : Obj) :
    (((w.setCell ⟨g, 0, none⟩ x).setCell ⟨g, 1, none⟩ y).alloc o).cell? ⟨g, 0, none⟩ = some x ∧ (((w.setCell ⟨g, 0, none⟩ x).setCell ⟨g, 1, none⟩ y).alloc o).cell? ⟨g, 1, none⟩ = some y :=
  ⟨((h.two x y).alloc o).cell 0, ((h.two x y).alloc o).cell 1⟩

theorem basesF_rng (c : Nat) : basesF c = 0 ∨ 2 ≤ basesF c ∧ basesF c ≤ 36 := by
  unfold basesF
  split
  · simp
  · split
    · simp
    · split <;> simp

set_option maxHeartbeats 3200000 in
set_option maxRecDepth 100000 in
theorem Number_any (s : ByteArray) (hs : s.size ≤ 200) (base : Int) (hb : 2 ≤ base) (hb' : base ≤ 36) (w : World) :
    Calls Tryz.prog 49 #[.string s, .int .i64 base] w fun e w' => e = .returned (.tuple #[pairW (numF s base).1, .int .i64 (numF s base).2]) ∧ Touch [] w w' := by
  have hr := fun w => right_yes base hb hb' w
  have hb6 := Blk.new w 33 #[.int .i64 0, .int .i64 0]
  have f0 := hb6.frozen 0
  have f1 := hb6.frozen 1
  have t0 := (Touch.refl [] w).alloc (.cells #[.int .i64 0, .int .i64 0] 33)
  obtain ⟨R, hR⟩ : ∃ R, numF s base = R := ⟨_, rfl⟩
  rw [hR]
  unfold numF at hR
  cases hl : s.data.toList with
  | nil =>
    rw [hl] at hR
    simp only at hR
    obtain rfl : s = .empty := str_ext hl
    subst hR
    go_enter Tryz.func49, Tryz.ntmps49
    go_wp2_with fail
    refine (hr _).mono ?_
    rintro _ _ ⟨rfl, rfl⟩
    have he : (ByteArray.empty).toList.isEmpty = true := by rw [ByteArray.toList_eq]; rfl
    have z0 := hb6.cell 0
    have z1 := hb6.cell 1
    go_wp2_with fail
    refine bodyPost_ret (by simp [results, Tryz.results49, go_sem, z0, z1]; try rfl) rfl ⟨rfl, t0⟩
  | cons c l =>
    rw [hl] at hR
    simp only at hR
    have hsz : s.size = l.length + 1 := by rw [← str_size, hl]; rfl
    have hne : s.toList.isEmpty = false := by rw [ByteArray.toList_eq, hl]; rfl
    have hc : s[0]'(by omega) = c := by
      have := str_get s 0 (by omega)
      rw [hl] at this
      simpa using this.symm
    have hba := fun w => bases_any c.toNat w
    have h1 : (s.extract 1 s.size).data.toList = l := by
      rw [ext_list, hl]
      simp [hsz]
    have key : ∃ (S : ByteArray) (L : List UInt8) (B : Int), S = (if 0 < basesF c.toNat then s.extract 1 s.size else s) ∧ B = (if 0 < basesF c.toNat then (basesF c.toNat : Int) else base) ∧ S.data.toList = L ∧ numTail L B = R ∧ S.size ≤ 200 ∧ 2 ≤ B ∧ B ≤ 36 := by
      refine ⟨_, _, _, rfl, rfl, rfl, ?_, ?_, ?_, ?_⟩
      · by_cases h : 0 < basesF c.toNat
        · rw [if_pos h] at hR
          rw [if_pos h, if_pos h, h1]
          exact hR
        · rw [if_neg h] at hR
          rw [if_neg h, if_neg h, hl]
          exact hR
      · split
        · rw [← str_size, h1]
          omega
        · exact hs
      all_goals
        have := basesF_rng c.toNat
        split <;> omega
    obtain ⟨S, L, B, hS, hB, hSL, hR2, hSs, hB0, hB1⟩ := key
    clear hR
    have hcp := fun w => Tryz.strings_CutPrefix S ⟨#[45]⟩ w
    have hcs := fun (S1 : ByteArray) (h : S1.size ≤ 200) w => Tryz.strings_CutSuffix S1 ⟨#[46]⟩ w (by omega)
    rw [hSL] at hcp
    obtain ⟨neg, hneg⟩ : ∃ b, Lib.hasPrefix L [45] = b := ⟨_, rfl⟩
    obtain ⟨l1, hl1⟩ : ∃ b, Lib.trimPrefix L [45] = b := ⟨_, rfl⟩
    have hl1s : (⟨l1.toArray⟩ : ByteArray).size ≤ 200 := by
      rw [← str_size]
      have := trimP_len L [45]
      rw [hl1, ← hSL, str_size] at this
      simpa using Nat.le_trans this hSs
    have hcs := fun w => hcs ⟨l1.toArray⟩ hl1s w
    obtain ⟨dbl, hdbl⟩ : ∃ b, Lib.hasSuffix l1 [46] = b := ⟨_, rfl⟩
    obtain ⟨l2, hl2⟩ : ∃ b, Lib.trimSuffix l1 [46] = b := ⟨_, rfl⟩
    have hl2s : (⟨l2.toArray⟩ : ByteArray).size ≤ 200 := by
      rw [← str_size]
      have := trimS_len l1 [46]
      rw [hl2] at this
      rw [← str_size] at hl1s
      simpa using Nat.le_trans this hl1s
    have hac := fun w => Accept_any (0, 0) ⟨l2.toArray⟩ (by omega) B hB0 hB1 w
    simp only at hcp hcs hac
    rw [hneg, hl1] at hcp
    rw [hdbl, hl2] at hcs
    unfold numTail at hR2
    simp only [hneg, hl1, hdbl, hl2] at hR2
    obtain ⟨a, ha⟩ : ∃ a, acceptP (0, 0) B l2 = a := ⟨_, rfl⟩
    simp only [ha] at hR2 hac
    have hie : (⟨l2.toArray⟩ : ByteArray).toList.isEmpty = l2.isEmpty := by rw [ByteArray.toList_eq]
    clear hneg hl1 hl1s hl2s hdbl hl2 ha hSL hSs
    by_cases hz : 0 < basesF c.toNat
    case' pos =>
      rw [if_pos hz, hsz] at hS
      rw [if_pos hz] at hB
      have hex : (0 : Int) < (basesF c.toNat : Int) := by omega
      go_enter Tryz.func49, Tryz.ntmps49
      go_wp2_with fail
      refine (hr _).mono ?_
      rintro _ _ ⟨rfl, rfl⟩
      go_wp2_with fail
      refine (hba _).mono ?_
      rintro _ _ ⟨rfl, rfl⟩
      go_wp2_with fail
      go_quiet (fail)
      go_wp2_with fail
      rw [← hS, ← hB]
      clear hS hB
      have hb6 : Blk ((w.alloc (.cells #[.int .i64 0, .int .i64 0] 33)).drewN nq) w.heap.size 33 #[.int .i64 0, .int .i64 0] := hb6
      have t0 := t0.drewN nq
    case' neg =>
      rw [if_neg hz] at hS hB
      have hex : (basesF c.toNat : Int) = 0 := by omega
      have hba := fun w => hba w
      rw [hex] at hba
      subst hS hB
      go_enter Tryz.func49, Tryz.ntmps49
      go_wp2_with fail
      refine (hr _).mono ?_
      rintro _ _ ⟨rfl, rfl⟩
      go_wp2_with fail
      refine (hba _).mono ?_
      rintro _ _ ⟨rfl, rfl⟩
      go_wp2_with fail
    all_goals
      refine (hcp _).mono ?_
      rintro _ _ ⟨rfl, rfl⟩
      go_wp2_with fail
      refine (hcs _).mono ?_
      rintro _ _ ⟨rfl, rfl⟩
      go_wp2_with fail
      refine (hac _).mono ?_
      rintro _ w1 ⟨rfl, t1⟩
      have b4 := hb6.touch t1 (by simp)
      have t2 : Touch [] w w1 := t0.trans t1 (by simp)
      have e0 := b4.cell 0
      have e1 := b4.cell 1
      have f0 := b4.frozen 0
      have f1 := b4.frozen 1
      have hlt := b4.lt
      clear hcp hcs hac hb6 t0 t1 hex hba hr
      unfold pairW
      by_cases hend : l2 = [] ∨ 0 < a.2
      · rw [if_pos hend] at hR2
        subst hR2
        obtain ⟨⟨p0, p1⟩, n⟩ := a
        obtain ⟨z0, z1⟩ := two_over b4 (.int .i64 0) (.int .i64 0) (.cells #[.int .i64 p0, .int .i64 p1] 33)
        rcases (show l2 = [] ∨ l2 ≠ [] ∧ 0 < n by by_cases h : l2 = []; exact .inl h; exact .inr ⟨h, hend.resolve_left h⟩) with h | ⟨h, h'⟩
        · subst h
          clear hie
          go_wp2_with fail
          refine bodyPost_ret (by simp [results, Tryz.results49, go_sem, z0, z1]; try rfl) rfl ⟨rfl, ?_⟩
          exact ((t2.setCell (.inr (Nat.le_refl _)) _).setCell (.inr (Nat.le_refl _)) _).alloc _
        · obtain ⟨c2, l3, rfl⟩ := List.exists_cons_of_ne_nil h
          clear hie h
          go_wp2_with fail
          refine bodyPost_ret (by simp [results, Tryz.results49, go_sem, z0, z1]; try rfl) rfl ⟨rfl, ?_⟩
          exact ((t2.setCell (.inr (Nat.le_refl _)) _).setCell (.inr (Nat.le_refl _)) _).alloc _
      · rw [if_neg hend] at hR2
        have h : l2 ≠ [] := fun e => hend (.inl e)
        have h' : a.2 = 0 := by have : ¬ 0 < a.2 := fun e => hend (.inr e); omega
        obtain ⟨c2, l3, rfl⟩ := List.exists_cons_of_ne_nil h
        rw [h', show ((0 : Nat) : Int) = 0 from rfl]
        clear hie h' hend h
        obtain ⟨⟨p0, p1⟩, n⟩ := a
        cases neg with
        | false =>
          cases dbl with
          | false =>
            simp only [Bool.false_eq_true, if_false] at hR2
            subst hR2
            obtain ⟨z0, z1⟩ := two_over b4 (.int .i64 p0) (.int .i64 0) (.cells #[.int .i64 p0, .int .i64 p1] 33)
            go_wp2_with fail
            refine bodyPost_ret (by simp [results, Tryz.results49, go_sem, z0, z1]; try rfl) rfl ⟨rfl, ?_⟩
            exact ((t2.setCell (.inr (Nat.le_refl _)) _).setCell (.inr (Nat.le_refl _)) _).alloc _
          | true =>
            simp only [Bool.false_eq_true, if_false, if_true] at hR2
            subst hR2
            obtain ⟨z0, z1⟩ := two_over b4 (.int .i64 p0) (.int .i64 p1) (.cells #[.int .i64 p0, .int .i64 p1] 33)
            go_wp2_with fail
            refine bodyPost_ret (by simp [results, Tryz.results49, go_sem, z0, z1]; try rfl) rfl ⟨rfl, ?_⟩
            exact ((t2.setCell (.inr (Nat.le_refl _)) _).setCell (.inr (Nat.le_refl _)) _).alloc _
        | true =>
          go_wp2_with fail
          refine (Neg_any (p0, p1) _).mono ?_
          rintro _ w2 ⟨rfl, t3⟩
          obtain ⟨⟨q0, q1⟩, hq⟩ : ∃ q, negP (p0, p1) = q := ⟨_, rfl⟩
          simp only [hq, if_true] at hR2
          rw [hq]
          have b9 := Blk.new_at2 t3 rfl
          have t1 := ((Touch.refl [] w1).alloc (.cells #[.int .i64 p0, .int .i64 p1] 33)).trans t3 (by simp)
          have c4 := b4.touch t1 (by simp)
          have t4 := t2.trans t1 (by simp)
          have g0 := b9.cell 0
          have g1 := b9.cell 1
          have gf0 := b9.frozen 0
          have gf1 := b9.frozen 1
          have e0 := c4.cell 0
          have e1 := c4.cell 1
          have f0 := c4.frozen 0
          have f1 := c4.frozen 1
          have hlt9 := b9.lt
          have hne : w1.heap.size ≠ w.heap.size := by omega
          clear t1 t3 hq
          unfold pairW
          cases dbl with
          | false =>
            simp only [Bool.false_eq_true, if_false] at hR2
            subst hR2
            go_wp2_with fail
            obtain ⟨z0, z1⟩ := two_back ((c4.far (p := ⟨w1.heap.size, 0, none⟩) (Ne.symm hne) (.int .i64 q0)).far (p := ⟨w1.heap.size, 1, none⟩) (Ne.symm hne) (.int .i64 q1)) (.int .i64 q0) (.int .i64 0)
            refine bodyPost_ret (by simp [results, Tryz.results49, go_sem, z0, z1]; try rfl) rfl ⟨rfl, ?_⟩
            exact (((t4.setCell (.inr (Nat.le_of_lt hlt)) _).setCell (.inr (Nat.le_of_lt hlt)) _).setCell (.inr (Nat.le_refl _)) _).setCell (.inr (Nat.le_refl _)) _
          | true =>
            simp only [if_true] at hR2
            subst hR2
            go_wp2_with fail
            obtain ⟨z0, z1⟩ := two_back ((c4.far (p := ⟨w1.heap.size, 0, none⟩) (Ne.symm hne) (.int .i64 q0)).far (p := ⟨w1.heap.size, 1, none⟩) (Ne.symm hne) (.int .i64 q1)) (.int .i64 q0) (.int .i64 q1)
            refine bodyPost_ret (by simp [results, Tryz.results49, go_sem, z0, z1]; try rfl) rfl ⟨rfl, ?_⟩
            exact (((t4.setCell (.inr (Nat.le_of_lt hlt)) _).setCell (.inr (Nat.le_of_lt hlt)) _).setCell (.inr (Nat.le_refl _)) _).setCell (.inr (Nat.le_refl _)) _
end Go.Proofs.YtgdmiodcfdcihaaGreatDoor
