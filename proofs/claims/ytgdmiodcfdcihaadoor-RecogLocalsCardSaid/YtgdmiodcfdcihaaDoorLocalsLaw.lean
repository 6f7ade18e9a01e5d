/- RecogLocals: the walk, over contracts of Add. -/
import Derived.Test.YtgdmiodcfdcihaaDoorNames
import Derived.Test.YtgdmiodcfdcihaaDoorShown16
namespace Go.Proofs.YtgdmiodcfdcihaaDoor
open Go.RowKit

def AddOK (s : ByteArray) (e : Int) (H : List Head) : Prop := ∀ w D F, DictAt w D F [] → Calls Tryd.prog 13 #[.pointer (some ⟨D, 0, none⟩), .string s, .int .i64 7] w fun r w' =>
  r = .returned (.int .i64 e) ∧ ∃ F', DictAt w' D F' H ∧ Touch F w w' ∧ ∀ f, f ∈ F' → f ∈ F ∨ w.heap.size ≤ f

theorem lastF_spec (zs : List Small) (f : ByteArray) : ∀ (n m : Nat), m < n → foldB (zs.getD m Small.nil).1 = f → ∃ i, lastF zs f n = some i ∧ i < n ∧ ∀ j, i < j → j < n → foldB (zs.getD j Small.nil).1 ≠ f
  | 0, _, h, _ => absurd h (Nat.not_lt_zero _)
  | n + 1, m, h, hm => by
    unfold lastF
    by_cases hn : foldB (zs.getD n Small.nil).1 = f
    · rw [if_pos hn]
      exact ⟨n, rfl, by omega, fun j h1 h2 => by omega⟩
    · rw [if_neg hn]
      have hmn : m < n := by
        rcases Nat.lt_succ_iff_lt_or_eq.1 h with h | rfl
        · exact h
        · exact absurd hm hn
      obtain ⟨i, h1, h2, h3⟩ := lastF_spec zs f n m hmn hm
      refine ⟨i, h1, by omega, fun j hj hj2 => ?_⟩
      rcases Nat.lt_succ_iff_lt_or_eq.1 hj2 with h | rfl
      · exact h3 j hj h
      · exact hn

theorem row_form {w : World} {base : Nat} {u : Value} {zs : List Small} (hr : w.ownsRow base 9 1 u zs.length (zs.map fun z => .string z.1)) (hz : zs.length ≠ 0) :
    ∃ g cap, u = .slice (some ⟨g, 0, none⟩) zs.length cap ∧ g < w.heap.size ∧ ∀ j, j < zs.length → w.cell? ⟨g, 0 + j, none⟩ = some (.string (zs.getD j Small.nil).1) := by
  obtain ⟨g, cap, rfl⟩ : ∃ g cap, u = .slice (some ⟨g, 0, none⟩) zs.length cap := by
    rcases hr.2 with ⟨_, h0⟩ | ⟨g, cap, cur, h1, _⟩
    · omega
    · exact ⟨g, cap, h1⟩
  refine ⟨g, cap, rfl, row_lt hr (by simp [rowOf]), fun j hj => ?_⟩
  rw [Nat.zero_add, hr.cellAt j (by omega)]
  simp [List.getD_eq_getElem?_getD, List.getElem?_eq_getElem hj]

/-- the three that are asked -/
theorem all_first (s : ByteArray) (H : List Head) (zs : List Small) (i : Nat) (h : lastF zs (foldB s) zs.length = some i) : allF (oneF s H 10 zs KnownV.none) firstL = (⟨4, 0, false, i, 0⟩, 0) := by
  have e : oneF s H 10 zs KnownV.none (-6) = ⟨4, 0, false, i, 0⟩ := by
    unfold oneF
    rw [if_pos rfl, h]
    rfl
  unfold firstL
  rw [allF, if_neg (by decide), e, if_neg (by show ¬ (4 : Int) = 0; decide)]
theorem all_second (s : ByteArray) (zs : List Small) (i : Nat) (h : lastF zs (foldB s) zs.length = some i) (H : List Head) :
    (H = [⟨s, 7, false⟩] → allF (oneF s H 10 zs KnownV.none) [-1, -6] = (⟨1, 7, false, 0, 0⟩, 0)) ∧ (H = [] → allF (oneF s H 10 zs KnownV.none) [-1, -6] = (⟨4, 0, false, i, 0⟩, 1)) := by
  constructor
  · rintro rfl
    have e : oneF s [⟨s, 7, false⟩] 10 zs KnownV.none (-1) = ⟨1, 7, false, 0, 0⟩ := by
      have hl : lookH [⟨s, 7, false⟩] (foldB s) [(⟨s, 7, false⟩ : Head)].length = some ⟨s, 7, false⟩ := by
        show (if foldB s = foldB s then _ else _) = _
        rw [if_pos rfl]
        rfl
      unfold oneF
      rw [if_neg (by decide), if_pos rfl, hl]
      rfl
    rw [allF, if_neg (by decide), e, if_neg (by show ¬ (1 : Int) = 0; decide)]
  · rintro rfl
    have e1 : oneF s [] 10 zs KnownV.none (-1) = KnownV.none := by
      unfold oneF
      rw [if_neg (by decide), if_pos rfl]
      rfl
    have e2 : oneF s [] 10 zs KnownV.none (-6) = ⟨4, 0, false, i, 0⟩ := by
      unfold oneF
      rw [if_pos rfl, h]
      rfl
    rw [allF, if_neg (by decide), e1, if_pos (show KnownV.none.kind = 0 from rfl), allF, if_neg (by decide), e2, if_neg (by show ¬ (4 : Int) = 0; decide)]
theorem all_third (K : Int → KnownV) : allF K [5, -6] = (KnownV.none, 0) := by
  rw [allF, if_pos (by decide)]

theorem nums_two (w : World) (x y : Int) : Nums (w.alloc (.cells #[.int .i64 x, .int .i64 y] 3)) (some ⟨w.heap.size, 0, none⟩) [x, y] := fun j hj => by
  have hj' : j < 2 := hj
  refine ⟨w.heap.size, 0, rfl, by simp, ?_⟩
  rw [Nat.zero_add, (Blk.new w 3 #[.int .i64 x, .int .i64 y]).cell j]
  rcases (show j = 0 ∨ j = 1 by omega) with rfl | rfl <;> rfl

theorem known_neq (p q : KnownV) (w : World) : (binOp .neq 28 p.v q.v).run Tryd.prog w = .ok (.bool (!(p.kind == q.kind && p.xt == q.xt && p.now == q.now && p.a == q.a && p.b == q.b))) w := by
  have h := known_eql p q w
  unfold KnownV.v at h ⊢
  rw [run_eql_struct] at h
  rw [run_neq_struct]
  revert h
  cases (Op.equalIn 10000 28 (.agg #[.int .i64 p.kind, .int .i64 p.xt, .bool p.now, .int .i64 p.a, .int .i64 p.b]) (.agg #[.int .i64 q.kind, .int .i64 q.xt, .bool q.now, .int .i64 q.a, .int .i64 q.b])).run Tryd.prog w with
  | ok b w' =>
    intro h
    simp only [Result.andThen, Result.ok.injEq, Value.bool.injEq] at h ⊢
    exact ⟨by rw [h.1], h.2⟩
  | halt e w' =>
    intro h
    simp [Result.andThen] at h

theorem Strs.quiet {w w' : World} {v : Value} {ss : List ByteArray} (h : Strs w v ss) (t : Touch [] w w') : Strs w' v ss := by
  refine ⟨?_, h.size⟩
  rcases h.form with h | h | ⟨b, off, cap, e, hb, h1, h2, hc⟩
  · exact .inl h
  · exact .inr (.inl h)
  · exact .inr (.inr ⟨b, off, cap, e, Nat.lt_of_lt_of_le hb t.size, h1, h2, fun i hi => (t.cell (p := ⟨b, off + i, none⟩) hb (by simp)).trans (hc i hi)⟩)

/-- what is asked of a text by some, whichever world -/
theorem All_given (w : World) (l : List Int) (hlen : l.length ≤ 10) (c : Nat) (a : Option Addr) (hn : Nums w a l) (s : ByteArray) (D : Nat) (F : List Nat) (H : List Head) (b : Option Addr) (cap : Nat) (zs : List Small) (g : Given w s D F H 10 b cap zs)
    (hk : ∀ k, k < l.length → (∀ i, i < k → (oneF s H 10 zs KnownV.none (l.getD i 0)).kind = 0) → l.getD k 0 ≤ 0 → l.getD k 0 = -6 ∨ l.getD k 0 = -1 ∨ l.getD k 0 = -2 ∨ l.getD k 0 = -3 ∨ l.getD k 0 = -4) :
    Calls Tryd.prog 8 #[.slice a l.length c, .string s, .pointer (some ⟨D, 0, none⟩), .int .i64 10, .slice b zs.length cap] w fun e w' => e = .returned (.tuple #[(allF (oneF s H 10 zs KnownV.none) l).1.v, .int .i64 (allF (oneF s H 10 zs KnownV.none) l).2]) ∧ Touch [] w w' :=
  All_any w l (by omega) a c hn (.string s) (.pointer (some ⟨D, 0, none⟩)) (.int .i64 10) (.slice b zs.length cap) (oneF s H 10 zs KnownV.none) fun k hl hz hle w' t =>
    One_five w' s D F H 10 b cap zs (g.quiet t) KnownV.none _ (hk k hl hz hle)

set_option maxRecDepth 100000 in
set_option maxHeartbeats 6400000 in
theorem RecogLocals_walk (hadd0 : AddOK .empty (-16) []) (hadd1 : ∀ s, s.size ≠ 0 → s.size ≤ 31 → AddOK s 0 [⟨s, 7, false⟩]) (W : World) (v : Value) (ss : List ByteArray) (hS : Strs W v ss) (t : Int) (ht0 : 0 ≤ t) (ht1 : t ≤ 255) :
    Calls Tryd.prog 4 #[v, .int .u8 t] W fun e w' => e = .returned (.bool true) ∧ Touch [] W w' := by
  have hnm := fun w' (u : Touch [] W w') => names_any w' v ss (hS.quiet u)
  obtain ⟨zs, hzs⟩ : ∃ zs, namesF ss = zs := ⟨_, rfl⟩
  have hz12 : zs.length ≤ 12 := by rw [← hzs]; unfold namesF; simp; omega
  simp only [hzs] at hnm
  have h30 : ∀ j, (zs.getD j Small.nil).1.size ≤ 30 := fun j => by
    rw [← hzs]
    unfold namesF
    rw [List.getD_eq_getElem?_getD, List.getElem?_map]
    cases (ss.take 12)[j]? with
    | none => simp [Small.nil]
    | some x => simp [cut30, ByteArray.size_extract]; omega
  clear hzs
  go_enter Tryd.func4, Tryd.ntmps4
  go_wp2_with fail
  refine (shown_any _).mono ?_
  rintro _ w1 ⟨rfl, t1⟩
  go_wp2_with fail
  refine (hnm w1 t1).mono ?_
  rintro _ w2 ⟨u, rfl, hr, t2⟩
  have tw := t1.trans t2 (by simp)
  clear hnm t1 t2
  by_cases hz0 : zs.length = 0
  · obtain rfl : zs = [] := List.eq_nil_of_length_eq_zero hz0
    obtain ⟨a, cap, rfl⟩ : ∃ a cap, u = .slice a 0 cap := by
      rcases hr.2 with ⟨rfl, h0⟩ | ⟨g, cap, cur, h1, _⟩
      · exact ⟨none, 0, rfl⟩
      · exact ⟨_, cap, h1⟩
    go_wp2_with fail
    go_ret
    exact ⟨rfl, tw⟩
  · obtain ⟨g, cap, rfl, hg, hcell⟩ := row_form hr hz0
    clear hr
    obtain ⟨m, hm, hmn⟩ : ∃ m : Nat, t.tmod (zs.length : Int) = m ∧ m < zs.length := by
      refine ⟨t.toNat % zs.length, ?_, Nat.mod_lt _ (by omega)⟩
      obtain ⟨q, rfl⟩ := Int.eq_ofNat_of_zero_le ht0
      rfl
    have hc := hcell m hmn
    rw [Nat.zero_add] at hc
    have hs30 := h30 m
    obtain ⟨s, hs⟩ : ∃ s, (zs.getD m Small.nil).1 = s := ⟨_, rfl⟩
    rw [hs] at hc hs30
    have hzn : ((zs.length : Int) == 0) = false := beq_eq_false_iff_ne.2 (by omega)
    obtain ⟨i, hlast, hin, hafter⟩ := lastF_spec zs (foldB s) zs.length m hmn (by rw [hs])
    obtain ⟨e, H, hadd, hcase⟩ : ∃ e H, AddOK s e H ∧ ((e = 0 ∧ H = [⟨s, 7, false⟩]) ∨ (e = -16 ∧ H = [])) := by
      by_cases h0 : s.size = 0
      · obtain rfl : s = .empty := str_ext (List.eq_nil_of_length_eq_zero (by rw [str_size]; exact h0))
        exact ⟨_, _, hadd0, .inr ⟨rfl, rfl⟩⟩
      · exact ⟨_, _, hadd1 s h0 (by omega), .inl ⟨rfl, rfl⟩⟩
    clear hadd0 hadd1 hS h30
    have HH := Lib.hid hs
    have HC := Lib.hid hcase
    have HA := Lib.hid hafter
    clear hs hcase hafter
    have hin' : (i : Int) < (zs.length : Int) := by omega
    have hip : (0 : Int) ≤ (i : Int) := by omega
    go_wp2_with fail
    refine (New_any _).mono ?_
    rintro _ w3 ⟨D, F, rfl, hd, t3, hF⟩
    go_wp2_with fail
    refine (hadd w3 D F hd).mono ?_
    rintro _ w4 ⟨rfl, F', hd4, t4, hF4⟩
    have t24 : Touch [] w2 w4 := t3.trans t4 (fun f hf => .inr (hF f hf))
    have gv : ∀ w', Touch [] w4 w' → Given w' s D F' H 10 (some ⟨g, 0, none⟩) cap zs := fun w' t =>
      ⟨by omega, hd4.quiet t, by omega, by omega, ⟨some ⟨g, 0, none⟩, cap, rfl, .inr ⟨g, 0, rfl, Nat.lt_of_lt_of_le hg (Nat.le_trans t24.size t.size), fun j hj => ((t24.trans t (by simp)).cell (p := ⟨g, 0 + j, none⟩) hg (by simp)).trans (hcell j hj)⟩⟩, by omega⟩
    have tw := tw.trans t24 (by simp)
    clear hadd hd hd4 t3 t4 hF hF4
    go_wp2_with fail
    refine (First_any _).mono ?_
    rintro _ w5 ⟨gl, rfl, hn5, t5⟩
    have ha1 := All_given w5 firstL (by decide) 6 (some ⟨gl, 0, none⟩) hn5 s D F' H (some ⟨g, 0, none⟩) cap zs (gv w5 t5) (fun k hk hz hle => by
      have h0 : (oneF s H 10 zs KnownV.none (firstL.getD 0 0)).kind = 4 := by
        show (oneF s H 10 zs KnownV.none (-6)).kind = 4
        unfold oneF
        rw [if_pos rfl, hlast]
        rfl
      rcases Nat.eq_zero_or_pos k with rfl | hp
      · exact .inl rfl
      · have := hz 0 hp
        omega)
    rw [all_first s H zs i hlast] at ha1
    go_wp2_with fail
    refine ha1.mono ?_
    rintro _ w6 ⟨rfl, t6⟩
    have u6 := t5.trans t6 (by simp)
    clear ha1 hn5 t5 t6
    unfold KnownV.v
    go_upto_region 9 with (fail)
    have bA := Blk.new w6 28 #[.int .i64 4, .int .i64 0, .bool false, .int .i64 (i : Int), .int .i64 0]
    have uA := u6.alloc (.cells #[.int .i64 4, .int .i64 0, .bool false, .int .i64 (i : Int), .int .i64 0] 28)
    generalize w6.alloc (.cells #[.int .i64 4, .int .i64 0, .bool false, .int .i64 (i : Int), .int .i64 0] 28) = wA at *
    have a0 := bA.cell 0
    have a1 := bA.cell 1
    have a2 := bA.cell 2
    have a3 := bA.cell 3
    go_wp2_with fail
    have hcA : ∀ w', Touch [] wA w' → ∀ j, j < zs.length → w'.cell? ⟨g, j, none⟩ = some (.string (zs.getD j Small.nil).1) := fun w' t j hj => by
      have := ((t24.trans (uA.trans t (by simp)) (by simp)).cell (p := ⟨g, 0 + j, none⟩) hg (by simp)).trans (hcell j hj)
      rwa [Nat.zero_add] at this
    have HcA := Lib.hid hcA
    clear a0 a1 a2 a3 hcA
    go_loopw [12] (fun q wr => ∃ j : Nat, i < j ∧ j ≤ zs.length ∧ q = .int .i64 j ∧ Touch [] wA wr) (fun q _ => zs.length - (intOf q).toNat)
    case atStart => exact ⟨i + 1, by omega, by omega, vint (by omega), Touch.refl _ _⟩
    case round =>
      obtain ⟨j, hij, hjl, rfl, tr⟩ := hrel
      by_cases hlt : j < zs.length
      · have hcj := HcA.out wr tr j hlt
        have hne := HA.out j hij hlt
        obtain ⟨y, hy⟩ : ∃ y, (zs.getD j Small.nil).1 = y := ⟨_, rfl⟩
        rw [hy] at hcj hne
        have hys : (y.toList == s.toList) = false := by
          rw [str_beq]
          simp only [decide_eq_false_iff_not]
          rintro rfl
          exact hne rfl
        clear hy hne
        go_wp2_with fail
        refine ⟨⟨j + 1, by omega, by omega, rfl, tr⟩, ?_⟩
        simp only [intOf]
        omega
      · obtain rfl : j = zs.length := by omega
        have bA := bA.touch tr (by simp)
        have ur := uA.trans tr (by simp)
        have a0 := bA.cell 0
        have a1 := bA.cell 1
        have a2 := bA.cell 2
        have a3 := bA.cell 3
        have a4 := bA.cell 4
        have hlr := bA.lt
        clear HcA tr uA
        go_upto_region 16 with (fail)
        have hn7 := nums_two wr (-1) (-6)
        have t7 := (Touch.refl [] wr).alloc (.cells #[.int .i64 (-1), .int .i64 (-6)] 3)
        have u7 := ur.trans t7 (by simp)
        have ha2 := All_given _ [-1, -6] (by decide) 2 _ hn7 s D F' H (some ⟨g, 0, none⟩) cap zs (gv _ u7) (fun k hk hz hle => by
          rcases (show k = 0 ∨ k = 1 by simp at hk; omega) with rfl | rfl
          · exact .inr (.inl rfl)
          · exact .inl rfl)
        obtain ⟨y2, n2, hy2, hyc⟩ : ∃ (y2 : KnownV) (n2 : Nat), allF (oneF s H 10 zs KnownV.none) [-1, -6] = (y2, n2) ∧ ((e = 0 ∧ y2 = ⟨1, 7, false, 0, 0⟩ ∧ n2 = 0) ∨ (e = -16 ∧ y2 = ⟨4, 0, false, i, 0⟩ ∧ n2 = 1)) := by
          rcases HC.out with ⟨he, hH⟩ | ⟨he, hH⟩
          · exact ⟨_, _, (all_second s zs i hlast H).1 hH, .inl ⟨he, rfl, rfl⟩⟩
          · exact ⟨_, _, (all_second s zs i hlast H).2 hH, .inr ⟨he, rfl, rfl⟩⟩
        rw [hy2] at ha2
        clear hy2
        go_wp2_with fail
        refine ha2.mono ?_
        rintro _ w8 ⟨rfl, t8⟩
        have bA := bA.touch (t7.trans t8 (by simp)) (by simp)
        have u8 := u7.trans t8 (by simp)
        clear ha2 hn7 t7 u7 t8 a0 a1 a2 a3 a4
        obtain ⟨x0, x1, x2, x3, x4⟩ := y2
        unfold KnownV.v
        go_upto_region 17 with (fail)
        have bB := Blk.new w8 28 #[.int .i64 x0, .int .i64 x1, .bool x2, .int .i64 x3, .int .i64 x4]
        have bA := bA.alloc (.cells #[.int .i64 x0, .int .i64 x1, .bool x2, .int .i64 x3, .int .i64 x4] 28)
        have uB := u8.alloc (.cells #[.int .i64 x0, .int .i64 x1, .bool x2, .int .i64 x3, .int .i64 x4] 28)
        generalize w8.alloc (.cells #[.int .i64 x0, .int .i64 x1, .bool x2, .int .i64 x3, .int .i64 x4] 28) = wB at *
        have hn9 := nums_two wB 5 (-6)
        have t9 := (Touch.refl [] wB).alloc (.cells #[.int .i64 5, .int .i64 (-6)] 3)
        have u9 := uB.trans t9 (by simp)
        have ha3 := All_given _ [5, -6] (by decide) 2 _ hn9 s D F' H (some ⟨g, 0, none⟩) cap zs (gv _ u9) (fun k hk hz hle => by
          rcases (show k = 0 ∨ k = 1 by simp at hk; omega) with rfl | rfl
          · exact absurd hle (by decide)
          · exact .inl rfl)
        rw [all_third] at ha3
        go_wp2_with fail
        refine ha3.mono ?_
        rintro _ w10 ⟨rfl, t10⟩
        have bA := bA.touch (t9.trans t10 (by simp)) (by simp)
        have bB := bB.touch (t9.trans t10 (by simp)) (by simp)
        have u10 := u9.trans t10 (by simp)
        clear ha3 hn9 t9 u9 t10
        unfold KnownV.v KnownV.none
        go_upto_region 18 with (fail)
        have bC := Blk.new w10 28 #[.int .i64 0, .int .i64 0, .bool false, .int .i64 0, .int .i64 0]
        have bA := bA.alloc (.cells #[.int .i64 0, .int .i64 0, .bool false, .int .i64 0, .int .i64 0] 28)
        have bB := bB.alloc (.cells #[.int .i64 0, .int .i64 0, .bool false, .int .i64 0, .int .i64 0] 28)
        have uC := u10.alloc (.cells #[.int .i64 0, .int .i64 0, .bool false, .int .i64 0, .int .i64 0] 28)
        generalize w10.alloc (.cells #[.int .i64 0, .int .i64 0, .bool false, .int .i64 0, .int .i64 0] 28) = wC at *
        have c0 := bC.cell 0
        have c1 := bC.cell 1
        have c2 := bC.cell 2
        have c3 := bC.cell 3
        have c4 := bC.cell 4
        have b0 := bB.cell 0
        have b1 := bB.cell 1
        have b2 := bB.cell 2
        have b3 := bB.cell 3
        have b4 := bB.cell 4
        have a0 := bA.cell 0
        have a1 := bA.cell 1
        have a2 := bA.cell 2
        have a3 := bA.cell 3
        have a4 := bA.cell 4
        have hneq := fun w => known_neq ⟨0, 0, false, 0, 0⟩ ⟨0, 0, false, 0, 0⟩ w
        have heq1 := fun w => known_eql ⟨1, 7, false, 0, 0⟩ ⟨1, 7, false, 0, 0⟩ w
        have heq2 := fun w => known_eql ⟨4, 0, false, i, 0⟩ ⟨4, 0, false, i, 0⟩ w
        rw [show ((4 : Int) == 4 && (0 : Int) == 0 && false == false && (i : Int) == (i : Int) && (0 : Int) == 0) = true by simp] at heq2
        simp only [KnownV.v] at hneq heq1 heq2
        have hgd := known_guard
        rcases hyc with ⟨rfl, he, rfl⟩ | ⟨rfl, he, rfl⟩
        all_goals cases he
        all_goals
          go_wp2_with fail
          go_ret
          exact ⟨rfl, tw.trans uC (by simp)⟩
end Go.Proofs.YtgdmiodcfdcihaaDoor
