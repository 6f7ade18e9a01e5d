/- RecogNone: the walk. -/
import Derived.Test.YtgdmiodcfdcihaaDoorRecogR
import Derived.Test.YtgdmiodcfdcihaaDoorMay
namespace Go.Proofs.YtgdmiodcfdcihaaDoor
open Go.RowKit

theorem field_kind (x0 x1 : Int) (x2 : Bool) (x3 x4 : Int) (w : World) : (Instr.field 28 (.agg #[.int .i64 x0, .int .i64 x1, .bool x2, .int .i64 x3, .int .i64 x4]) 0).run Tryd.prog w = .ok (.int .i64 x0) w := by
  simp [Instr.field, run_underlying Tryd.underlying28, go_sem, asAgg, Result.andThen]
  first | done | rfl | kernel_rfl

/-- One at any of the six, where real.Number's answer is known -/
theorem One_six (w : World) (s : ByteArray) (D : Nat) (F : List Nat) (H : List Head) (base : Int) (a : Option Addr) (cap : Nat) (zs : List Small) (fv : Int) (fb : Bool) (hN : NumIs s fv fb) (g : GivenR w s D F H base a cap zs) (k : Int) (hk : k ∈ firstL) :
    Calls Tryd.prog 10 #[.int .i64 k, .string s, .pointer (some ⟨D, 0, none⟩), .int .i64 base, .slice a zs.length cap] w fun e w' => e = .returned (oneF s H base zs (toldK ⟨2, 0, false, fv, 0⟩ fb) k).v ∧ Touch [] w w' := by
  simp only [firstL, List.mem_cons, List.not_mem_nil, or_false] at hk
  rcases hk with rfl | rfl | rfl | rfl | rfl | rfl
  · exact One_five w s D F H base a cap zs g.1 _ _ (.inl rfl)
  · exact One_five w s D F H base a cap zs g.1 _ _ (.inr (.inl rfl))
  · exact One_five w s D F H base a cap zs g.1 _ _ (.inr (.inr (.inl rfl)))
  · exact One_five w s D F H base a cap zs g.1 _ _ (.inr (.inr (.inr (.inl rfl))))
  · exact One_five w s D F H base a cap zs g.1 _ _ (.inr (.inr (.inr (.inr rfl))))
  · exact One_real w s D F H base a cap zs fv fb hN g

theorem getD_mem {l : List Int} {k : Nat} (h : k < l.length) : l.getD k 0 ∈ l := by
  rw [List.getD_eq_getElem?_getD, List.getElem?_eq_getElem h]
  exact List.getElem_mem h

theorem All_six (w : World) (l : List Int) (hl : ∀ k, k ∈ l → k ∈ firstL) (hlen : l.length ≤ 1000) (c : Nat) (a : Option Addr) (hn : Nums w a l) (s : ByteArray) (D : Nat) (F : List Nat) (H : List Head) (base : Int) (b : Option Addr) (cap : Nat) (zs : List Small) (fv : Int) (fb : Bool) (hN : NumIs s fv fb) (g : GivenR w s D F H base b cap zs) :
    Calls Tryd.prog 8 #[.slice a l.length c, .string s, .pointer (some ⟨D, 0, none⟩), .int .i64 base, .slice b zs.length cap] w fun e w' =>
      e = .returned (.tuple #[(allF (oneF s H base zs (toldK ⟨2, 0, false, fv, 0⟩ fb)) l).1.v, .int .i64 (allF (oneF s H base zs (toldK ⟨2, 0, false, fv, 0⟩ fb)) l).2]) ∧ Touch [] w w' :=
  All_any w l hlen a c hn (.string s) (.pointer (some ⟨D, 0, none⟩)) (.int .i64 base) (.slice b zs.length cap) (oneF s H base zs (toldK ⟨2, 0, false, fv, 0⟩ fb)) fun _ hk _ _ w' t =>
    One_six w' s D F H base b cap zs fv fb hN (g.quiet t) _ (hl _ (getD_mem hk))

/-- all six are nothing just where the whole is, and then at is 6 -/
theorem all_none (K : Int → KnownV) : ∀ (l : List Int), (∀ k, k ∈ l → k ≤ 0) →
    decide ((allF K l).1.kind = 0) = l.all (fun k => decide ((K k).kind = 0)) ∧ (l.all (fun k => decide ((K k).kind = 0)) = decide ((allF K l).2 = l.length))
  | [], _ => ⟨rfl, rfl⟩
  | k :: r, h => by
    have ih := all_none K r fun q hq => h q (List.mem_cons_of_mem _ hq)
    have hk := h k (by simp)
    rw [allF, if_neg (by omega)]
    by_cases hz : (K k).kind = 0
    · rw [if_pos hz]
      simp only [List.all_cons, hz, decide_true, Bool.true_and, List.length_cons]
      refine ⟨ih.1, ih.2.trans ?_⟩
      rw [Bool.eq_iff_iff, decide_eq_true_eq, decide_eq_true_eq]
      omega
    · rw [if_neg hz]
      simp only [List.all_cons, hz, decide_false, Bool.false_and, List.length_cons]
      refine ⟨trivial, (decide_eq_false ?_).symm⟩
      show ¬ (0 : Nat) = r.length + 1
      omega

theorem all_take (l : List Int) (f : Int → Bool) (k : Nat) (hk : k < l.length) : (l.take (k + 1)).all f = ((l.take k).all f && f (l.getD k 0)) := by
  rw [List.take_succ_eq_append_getElem hk, List.all_append]
  simp [List.getD_eq_getElem?_getD, List.getElem?_eq_getElem hk]

theorem nums_one (w : World) (x : Int) : Nums (w.alloc (.cells #[.int .i64 x] 3)) (some ⟨w.heap.size, 0, none⟩) [x] := fun j hj => by
  have hj' : j < 1 := hj
  refine ⟨w.heap.size, 0, rfl, by simp, ?_⟩
  rw [Nat.zero_add, (Blk.new w 3 #[.int .i64 x]).cell j]
  obtain rfl : j = 0 := by omega
  rfl

theorem may_cons (w : Int) (l : List Int) : mayF l w = (decide (l.length ≤ 8) && l.all fun k => mayF [k] w) := by
  unfold mayF
  congr 1
  induction l with
  | nil => rfl
  | cons k r ih =>
    simp only [List.any_cons, List.all_cons, Bool.not_or, ih, List.any_nil, Bool.or_false, List.length_singleton]
    rfl

theorem Nums.take {w : World} {a : Option Addr} {l : List Int} (h : Nums w a l) (n : Nat) : Nums w a (l.take n) := fun j hj => by
  rw [List.length_take] at hj
  obtain ⟨g, off, h1, h2, h3⟩ := h j (by omega)
  refine ⟨g, off, h1, h2, ?_⟩
  rw [h3]
  simp [List.getD, show j < n by omega]

set_option maxRecDepth 100000 in
set_option maxHeartbeats 6400000 in
theorem RecogNone_walk (s : ByteArray) (hs : s.size ≤ maxLen) (l : List Int) (a : Option Addr) (c : Nat) (hlc : l.length ≤ c) (t : Int) (W : World) (hn : Nums W a l) (hT : Tabs W) :
    Calls Tryd.prog 3 #[.string s, .slice a l.length c, .int .u8 t] W fun e w' => e = .returned (.bool true) ∧ Touch [] W w' := by
  have HN := Lib.hid hn
  have HT := Lib.hid hT
  clear hn hT
  unfold maxLen at hs
  have ha : l.length = 0 ∧ a = none ∨ ∃ g, a = some g := by
    cases a with
    | none => 
      refine .inl ⟨?_, rfl⟩
      rcases Nat.eq_zero_or_pos l.length with h | h
      · exact h
      · obtain ⟨g, off, h1, _⟩ := HN.out 0 h
        cases h1
    | some g => exact .inr ⟨g, rfl⟩
  have hm2 : (min (l.length : Int) 10).toNat = (l.take 10).length := by simp; omega
  have h10 : (l.take 10).length ≤ 10 := by simp; omega
  have HM := Lib.hid (HN.out.take 10)
  obtain ⟨m, hm⟩ : ∃ m, l.take 10 = m := ⟨_, rfl⟩
  rw [hm] at hm2 h10 HM
  have HM2 := Lib.hid hm2
  clear hm2 hm HN
  have hT200 : (s.extract 0 (min (s.size : Int) 200).toNat).size ≤ 200 := by rw [ByteArray.size_extract]; omega
  obtain ⟨fv, fb, hF⟩ := Number_all _ hT200
  obtain ⟨T, hT⟩ : ∃ T, s.extract 0 (min (s.size : Int) 200).toNat = T := ⟨_, rfl⟩
  rw [hT] at hF hT200
  have HTs := Lib.hid hT
  have HF := Lib.hid hF
  clear hT hF
  obtain ⟨K, hK⟩ : ∃ K, oneF T [] 10 [] (toldK ⟨2, 0, false, fv, 0⟩ fb) = K := ⟨_, rfl⟩
  go_enter Tryd.func3, Tryd.ntmps3
  go_wp2_with fail
  refine (shown_any _).mono ?_
  rintro _ w1 ⟨rfl, t1⟩
  go_upto_region 2 with (fail)
  go_cut [8, 9] from 19 (fun s8 s9 wx => Touch [] W wx ∧ s8 = .string T ∧ s9 = .slice a m.length c)
  case first =>
    rcases ha with ⟨ha0, rfl⟩ | ⟨g, rfl⟩
    all_goals go_quiet (fail)
    all_goals go_wp2_with fail
    all_goals go_meet
    · exact ⟨t1.drewN _, congrArg Value.string HTs.out, by rw [← HM2.out, ha0]; rfl⟩
    · exact ⟨t1.drewN _, congrArg Value.string HTs.out, by rw [← HM2.out]⟩
  case rest =>
    obtain ⟨tw, rfl, rfl⟩ := hcut
    clear t1 ha HTs HM2 hs hlc
    go_wp2_with fail
    refine (New_any _).mono ?_
    rintro _ w3 ⟨D, F, rfl, hd, t3, hF⟩
    have tw := tw.trans t3 (by simp)
    clear t3 hF
    have gv : ∀ w', Touch [] w3 w' → GivenR w' T D F [] 10 none 0 [] := fun w' t =>
      ⟨⟨hT200, hd.quiet t, by omega, by omega, ⟨none, 0, rfl, .inl rfl⟩, by simp⟩, HT.out.touch (tw.trans t (by simp))⟩
    have HG := Lib.hid gv
    clear gv hd
    go_wp2_with fail
    refine (First_any _).mono ?_
    rintro _ w4 ⟨gl, rfl, hn4, t4⟩
    have hall := All_six w4 firstL (fun _ h => h) (by decide) 6 (some ⟨gl, 0, none⟩) hn4 T D F [] 10 none 0 [] fv fb HF.out (HG.out w4 t4)
    rw [hK] at hall
    obtain ⟨⟨⟨x0, x1, x2, x3, x4⟩, at6⟩, hA⟩ : ∃ R, allF K firstL = R := ⟨_, rfl⟩
    have hlaw := all_none K firstL (by decide)
    rw [hA] at hall hlaw
    have HL := Lib.hid hlaw
    clear hlaw hA
    go_wp2_with fail
    refine hall.mono ?_
    rintro _ w5 ⟨rfl, t5⟩
    have u5 := t4.trans t5 (by simp)
    clear hall hn4 t4 t5
    unfold KnownV.v
    go_upto_region 5 with (fail)
    have bA := Blk.new w5 28 #[.int .i64 x0, .int .i64 x1, .bool x2, .int .i64 x3, .int .i64 x4]
    have uA := u5.alloc (.cells #[.int .i64 x0, .int .i64 x1, .bool x2, .int .i64 x3, .int .i64 x4] 28)
    generalize w5.alloc (.cells #[.int .i64 x0, .int .i64 x1, .bool x2, .int .i64 x3, .int .i64 x4] 28) = wA at *
    clear u5
    go_wp2_with fail
    refine (First_any _).mono ?_
    rintro _ w6 ⟨gm, rfl, hn6, t6⟩
    have HN6 := Lib.hid hn6
    clear hn6
    go_wp2_with fail
    go_loopw [13, 40] (fun b i wr => ∃ k : Nat, k ≤ 6 ∧ i = .int .i64 k ∧ b = .bool ((firstL.take k).all fun k => decide ((K k).kind = 0)) ∧ Touch [] w6 wr) (fun _ i _ => 6 - (intOf i).toNat)
    case atStart => exact ⟨0, Nat.zero_le _, rfl, rfl, Touch.refl _ _⟩
    case round =>
      obtain ⟨k, hk, rfl, rfl, tr⟩ := hrel
      by_cases hlt : k < 6
      · obtain ⟨g, off, hge, hg, hcl⟩ := (HN6.out.quiet tr) k hlt
        have hone := One_six wr T D F [] 10 none 0 [] fv fb HF.out (HG.out wr ((uA.trans t6 (by simp)).trans tr (by simp))) (firstL.getD k 0) (getD_mem hlt)
        rw [hK] at hone
        cases hge
        rw [Nat.zero_add] at hcl
        have hall := all_take firstL (fun k => decide ((K k).kind = 0)) k hlt
        obtain ⟨x, hx⟩ : ∃ x, firstL.getD k 0 = x := ⟨_, rfl⟩
        rw [hx] at hcl hone hall
        obtain ⟨⟨y0, y1, y2, y3, y4⟩, hKx⟩ : ∃ R, K x = R := ⟨_, rfl⟩
        rw [hKx] at hone hall
        obtain ⟨b, hb⟩ : ∃ b, ((firstL.take k).all fun k => decide ((K k).kind = 0)) = b := ⟨_, rfl⟩
        rw [hb] at hall ⊢
        have HA := Lib.hid hall
        clear hx hKx hb hall
        unfold KnownV.v at hone
        have hfld := field_kind y0 y1 y2 y3 y4
        cases b with
        | true =>
          go_wp2_with fail
          refine hone.mono ?_
          rintro _ w7 ⟨rfl, t7⟩
          go_wp2_with fail
          refine ⟨⟨k + 1, by omega, rfl, ?_, tr.trans t7 (by simp)⟩, by simp only [intOf]; omega⟩
          rw [HA.out]
          rfl
        | false =>
          clear hone
          go_wp2_with fail
          refine ⟨⟨k + 1, by omega, rfl, ?_, tr⟩, by simp only [intOf]; omega⟩
          rw [HA.out]
          rfl
      · obtain rfl : k = 6 := by omega
        have hl := HL.out
        rw [show firstL.take 6 = firstL from rfl]
        obtain ⟨b, hb⟩ : ∃ b, (firstL.all fun k => decide ((K k).kind = 0)) = b := ⟨_, rfl⟩
        rw [hb] at hl ⊢
        have bA := (bA.touch t6 (by simp)).touch tr (by simp)
        have tw := tw.trans ((uA.trans t6 (by simp)).trans tr (by simp)) (by simp)
        clear hb HL HN6 HG HF hK t6 tr uA
        have a0 := bA.cell 0
        have hlr := bA.lt
        have hx0 : (x0 == 0) = b := hl.1
        have hat : ((at6 : Int) == 6) = b := by
          rw [hl.2, Bool.eq_iff_iff, beq_iff_eq, decide_eq_true_eq]
          show _ ↔ at6 = 6
          omega
        have hHL := Lib.hid hl
        clear hl hHL
        go_upto_region 13 with (fail)
        clear hx0 hat a0 bA hlr
        obtain ⟨u0, hu0⟩ : ∃ u, t.tmod 100 = u := ⟨_, rfl⟩
        obtain ⟨u, hu⟩ : ∃ u, wrap64 u0 = u := ⟨_, rfl⟩
        go_wp2_with fail
        go_loopw [16, 70] (fun b i ws => ∃ k : Nat, k ≤ m.length ∧ i = .int .i64 k ∧ b = .bool (decide (m.length ≤ 8) && (m.take k).all fun q => mayF [q] u) ∧ Touch [] wr ws) (fun _ i _ => m.length - (intOf i).toNat)
        case atStart => exact ⟨0, Nat.zero_le _, rfl, by simp; omega, Touch.refl _ _⟩
        case round =>
          obtain ⟨k, hk, rfl, rfl, tr⟩ := hrel
          by_cases hlt : k < m.length
          · obtain ⟨g, off, rfl, hg, hcl⟩ := (HM.out.quiet (tw.trans tr (by simp))) k hlt
            have hall := all_take m (fun q => mayF [q] u) k hlt
            obtain ⟨x, hx⟩ : ∃ x, m.getD k 0 = x := ⟨_, rfl⟩
            rw [hx] at hcl hall
            obtain ⟨b1, hb1⟩ : ∃ b, ((m.take k).all fun q => mayF [q] u) = b := ⟨_, rfl⟩
            obtain ⟨b2, hb2⟩ : ∃ b, mayF [x] u = b := ⟨_, rfl⟩
            rw [hb1, hb2] at hall
            rw [hb1]
            have HA := Lib.hid hall
            have hmay := May_any [x] (by simp) (some ⟨(wr).heap.size, 0, none⟩) 1 u _ (nums_one wr x)
            rw [hb2] at hmay
            clear hall hx hb1 hb2
            have hb8 : ((decide (m.length ≤ 8) && b1) = true) ∨ ((decide (m.length ≤ 8) && b1) = false) := by cases (decide (m.length ≤ 8) && b1) <;> simp
            obtain ⟨b3, hb3⟩ : ∃ b, (decide (m.length ≤ 8) && b1) = b := ⟨_, rfl⟩
            rw [hb3]
            have HB3 := Lib.hid hb3
            clear hb8 hb3
            cases b3 with
            | true =>
              go_wp2_with fail
              refine hmay.mono ?_
              rintro _ w9 ⟨rfl, t9⟩
              go_wp2_with fail
              refine ⟨⟨_, _, _, _, _, _, _, _, _, _, _, _, _, _, _, _, ⟨k + 1, by omega, rfl, ?_, (tr.alloc _).trans t9 (by simp)⟩, rfl⟩, ?_⟩
              · rw [HA.out, ← Bool.and_assoc, HB3.out]
                rfl
              · show m.length - (intOf (.int .i64 ((k : Int) + 1))).toNat < m.length - (intOf (.int .i64 (k : Int))).toNat
                simp only [intOf]
                omega
            | false =>
              clear hmay
              go_wp2_with fail
              refine ⟨⟨k + 1, by omega, rfl, ?_, tr⟩, by simp only [intOf]; omega⟩
              rw [HA.out, ← Bool.and_assoc, HB3.out]
              rfl
          · obtain rfl : k = m.length := by omega
            rw [List.take_length, ← may_cons]
            have tw := tw.trans tr (by simp)
            have hn9 := HM.out.quiet tw
            have h1 := May_any m (by omega) a c u wr hn9
            obtain ⟨b, hb⟩ : ∃ b, mayF m u = b := ⟨_, rfl⟩
            rw [hb] at h1 ⊢
            clear hb tr hn9
            go_wp2_with fail
            refine h1.mono ?_
            rintro _ wA1 ⟨rfl, tA1⟩
            have tw := tw.trans tA1 (by simp)
            clear h1 tA1
            go_wp2_with fail
            refine (First_any _).mono ?_
            rintro _ wA2 ⟨gf, rfl, hnF, tA2⟩
            have tw := tw.trans tA2 (by simp)
            have h2 := May_any firstL (by decide) _ 6 0 wA2 hnF
            rw [show mayF firstL 0 = true from rfl] at h2
            clear hnF tA2
            go_wp2_with fail
            refine h2.mono ?_
            rintro _ wA3 ⟨rfl, tA3⟩
            have tw := tw.trans tA3 (by simp)
            have h3 := May_any [0] (by decide) _ 1 9 _ (nums_one wA3 0)
            rw [show mayF [0] 9 = false from rfl] at h3
            clear h2 tA3
            go_wp2_with fail
            refine h3.mono ?_
            rintro _ wA4 ⟨rfl, tA4⟩
            have tw := (tw.alloc _).trans tA4 (by simp)
            have h4 := May_any [-7] (by decide) _ 1 9 _ (nums_one wA4 (-7))
            rw [show mayF [-7] 9 = false from rfl] at h4
            clear h3 tA4
            go_wp2_with fail
            refine h4.mono ?_
            rintro _ wA5 ⟨rfl, tA5⟩
            have tw := (tw.alloc _).trans tA5 (by simp)
            have h5 := May_any [9] (by decide) _ 1 9 _ (nums_one wA5 9)
            rw [show mayF [9] 9 = true from rfl] at h5
            clear h4 tA5
            go_wp2_with fail
            refine h5.mono ?_
            rintro _ wA6 ⟨rfl, tA6⟩
            have tw := (tw.alloc _).trans tA6 (by simp)
            have h6 := May_any [10] (by decide) _ 1 9 _ (nums_one wA6 10)
            rw [show mayF [10] 9 = false from rfl] at h6
            clear h5 tA6
            go_wp2_with fail
            refine h6.mono ?_
            rintro _ wA7 ⟨rfl, tA7⟩
            have tw := (tw.alloc _).trans tA7 (by simp)
            clear h6 tA7
            go_wp2_with fail
            go_ret
            exact ⟨rfl, tw⟩
end Go.Proofs.YtgdmiodcfdcihaaDoor
