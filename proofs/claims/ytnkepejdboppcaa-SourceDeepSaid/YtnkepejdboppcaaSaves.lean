/- SourceSaves: the walk of the law. -/
import Derived.Test.YtnkepejdboppcaaSeeks
namespace Go.Proofs.Ytnkepejdboppcaa
open Go.RowKit

theorem info_str : (Try.prog.info? 9).map (fun i => (i.zero, i.size, i.bytes)) = some (some (.string .empty), 1, 16) := by kernel_rfl

/-- an Input and a row of texts, apart from each other, both newer than B -/
structure Both (B : Nat) (w : World) (b : Nat) (S : Ins) (v : Value) (n : Nat) (xs : List Value) (w' : World) : Prop where
  inn : ∃ F, InAt w' b F S ∧ (∀ f, f ∈ F → B ≤ f) ∧ ∀ g, g ∈ rowOf v → g ∉ F
  row : w'.ownsRow B 9 1 v n xs
  below : Below B w w'
section
variable {B : Nat} {w w1 w2 : World} {b n : Nat} {S T : Ins} {v : Value} {xs : List Value}
theorem Both.start (h : New B w b S w1) : Both B w b S (.slice none 0 0) 0 [] w1 := by
  obtain ⟨⟨F, h1, h2⟩, h3⟩ := h
  exact ⟨⟨F, h1, h2, by simp [rowOf]⟩, World.ownsRow_nil _ _ _ _, h3⟩
theorem Both.did {P : Program} {fn : FuncId} {args : Array Value} {r : Value} (h : Both B w b S v n xs w1) (hB : B ≤ w.heap.size) (c : ∀ F, InAt w1 b F S → Calls P fn args w1 fun e w' => e = .returned r ∧ Left w1 b F T w') :
    Calls P fn args w1 fun e w' => e = .returned r ∧ Both B w b T v n xs w' := by
  obtain ⟨⟨F, h1, h2, h4⟩, h5, h3⟩ := h
  have hz := h3.size
  refine (c F h1).mono fun _ _ ⟨he, F', k1, k2, k3⟩ => ⟨he, ⟨F', k1, fun f hf => ?_, fun g hg hf => ?_⟩, row_touch h5 k2 h4, h3.trans (k2.below (by omega) h2)⟩
  · rcases k3 f hf with h6 | h6
    · exact h2 f h6
    · omega
  · rcases k3 g hf with h6 | h6
    · exact h4 g hg h6
    · have := row_lt h5 hg; omega
theorem Both.ask {P : Program} {fn : FuncId} {args : Array Value} {R : Ending → World → Prop} (h : Both B w b S v n xs w1) (c : ∀ F, InAt w1 b F S → Calls P fn args w1 R) : Calls P fn args w1 R := by
  obtain ⟨⟨F, h1, _⟩, _⟩ := h
  exact c F h1
theorem Both.drewN (h : Both B w b S v n xs w1) (k : Nat) : Both B w b S v n xs (w1.drewN k) :=
  ⟨h.inn, h.row, ⟨h.below.os, h.below.tape, h.below.output, h.below.size, h.below.block⟩⟩
theorem Both.more {o : Obj} {g cap m : Nat} {ys : List Value} (h : Both B w b S v n xs w1) (hB : B ≤ w.heap.size) (hown : w2.ownsRow B 9 1 (.slice (some ⟨g, 0, none⟩) m cap) m ys) (hg : (w1.alloc o).grownBy w2 v.ownBlock)
    (hat : v.ownBlock = some g ∨ g = (w1.alloc o).heap.size) : Both B w b S (.slice (some ⟨g, 0, none⟩) m cap) m ys w2 := by
  obtain ⟨⟨F, h1, h2, h4⟩, h5, h3⟩ := h
  have hz := h3.size
  have ht : Touch (rowOf v) w1 w2 := ((Touch.refl _ w1).alloc o).grown hg fun k hk => .inl (rowOf_mem.2 hk)
  refine ⟨⟨F, h1.touch ht fun f hf hv => h4 f hv hf, h2, fun x hx hf => ?_⟩, hown, h3.trans (ht.below (by omega) fun f hf => (h5.lt f (rowOf_mem.1 hf)).1)⟩
  have hx' : x = g := by simpa [rowOf] using hx
  subst hx'
  rcases hat with h6 | h6
  · exact h4 x (rowOf_mem.2 h6) hf
  · have := h1.lt x hf
    have hs : (w1.alloc o).heap.size = w1.heap.size + 1 := by simp
    omega
theorem Both.new (h : Both B w b S v n xs w1) : New B w b S w1 := by
  obtain ⟨⟨F, h1, h2, h4⟩, h5, h3⟩ := h
  exact ⟨⟨F, h1, h2⟩, h3⟩
end

theorem row_shape {w : World} {base : Nat} {e : TypeId} {size n : Nat} {v : Value} {xs : List Value} (h : w.ownsRow base e size v n xs) : ∃ A cap, v = .slice A n cap := by
  rcases h.2 with ⟨rfl, rfl⟩ | ⟨g, cap, cur, rfl, _⟩
  · exact ⟨none, 0, rfl⟩
  · exact ⟨_, cap, rfl⟩

/-- where a text is read behind so many words -/
def pos (x : ByteArray) : Nat → Nat
  | 0 => 0
  | k + 1 => wordN x (pos x k)
theorem pos_le (x : ByteArray) (k : Nat) : pos x k ≤ x.size := by
  cases k with
  | zero => exact Nat.zero_le _
  | succ k => unfold pos wordN; omega
/-- the words behind the first a, so many -/
def wordsFrom (x : ByteArray) (a n : Nat) : List Value := (List.range n).map fun i => .string (wordS x (pos x (a + i)))
theorem wordsFrom_succ (x : ByteArray) (a n : Nat) : wordsFrom x a (n + 1) = wordsFrom x a n ++ [.string (wordS x (pos x (a + n)))] := by
  unfold wordsFrom; rw [List.range_succ, List.map_append]; rfl
theorem wordsFrom_at (x : ByteArray) (a n k : Nat) (h : k < n) : (wordsFrom x a n)[k]? = some (.string (wordS x (pos x (a + k)))) := by
  unfold wordsFrom; simp [h]
def saveS (x : ByteArray) (k m : Nat) : Ins := ⟨⟨x, 1, pos x k⟩, [.none], m⟩

set_option maxRecDepth 100000 in
set_option maxHeartbeats 1600000 in
theorem saves_walk (w : World) (s u : ByteArray) (m n : Int) (hs : s.size ≤ maxLen) (hu : u.size ≤ maxLen) (hm0 : 0 ≤ m) (hm1 : m ≤ 255) (hn0 : 0 ≤ n) (hn1 : n ≤ 255) :
    Calls Try.prog 6 #[.string s, .string u, .int .u8 m, .int .u8 n] w fun e w' => e = .returned (.bool true) ∧ Below w.heap.size w w' := by
  unfold maxLen at hs hu
  obtain ⟨i0, hi, hz0, hz1, hz2⟩ := info_parts info_str
  go_enter Try.func6, Try.ntmps6
  go_wp2_with fail
  refine (shown8 w).mono ?_
  rintro e w1 ⟨rfl, hb1⟩
  go_wp2_with fail
  go_cut [10, 11] (fun s10 s11 wx => ∃ k, w1.drewN k = wx ∧ ∃ x y : ByteArray, x.size ≤ 1000 ∧ y.size ≤ 1000 ∧ s10 = .string x ∧ s11 = .string y)
  case first =>
    rcases Nat.lt_or_ge 1000 s.size with h1 | h1 <;> rcases Nat.lt_or_ge 1000 u.size with h2 | h2
    all_goals
      have h3 : (s.extract 0 1000).size ≤ 1000 := by rw [ByteArray.size_extract]; omega
      have h4 : (u.extract 0 1000).size ≤ 1000 := by rw [ByteArray.size_extract]; omega
      have h5 := Lib.hid h3
      have h6 := Lib.hid h4
      clear h3 h4
      go_quiet (fail)
      go_wp2_with fail
      go_meet
      first
        | exact ⟨_, rfl, s.extract 0 1000, u.extract 0 1000, h5.out, h6.out, rfl, rfl⟩
        | exact ⟨_, rfl, s.extract 0 1000, u, h5.out, h2, rfl, rfl⟩
        | exact ⟨_, rfl, s, u.extract 0 1000, h1, h6.out, rfl, rfl⟩
        | exact ⟨_, rfl, s, u, h1, h2, rfl, rfl⟩
  case rest =>
    obtain ⟨k1, rfl, x, y, hx, hy, rfl, rfl⟩ := hcut
    clear hs hu
    go_wp2_with fail
    refine (New_in _).mono ?_
    rintro e w2 ⟨rfl, hp, tp⟩
    have n0 : New w.heap.size w w1.heap.size ins0 w2 := New.later (w1 := w1.drewN k1) ⟨hb1.os, hb1.tape, hb1.output, hb1.size, hb1.block⟩ hp tp
    clear hp tp
    go_wp2_with fail
    refine (n0.open_ (Nat.le_refl _) x hx (by decide) (by decide)).mono ?_
    rintro e w3 ⟨rfl, n1 : New _ w _ (saveS x 0 1) w3⟩
    clear n0
    go_wp2_with fail
    go_loopw [43] (fun i wr => ∃ j : Nat, (j : Int) ≤ m % 21 ∧ i = .int .u8 j ∧ New w.heap.size w w1.heap.size (saveS x j 1) wr) (fun i _ => 21 - (intOf i).toNat)
    case atStart => exact ⟨0, by omega, rfl, n1⟩
    case round =>
      obtain ⟨j, hj, rfl, nr⟩ := hrel
      by_cases hlt : (j : Int) < m % 21
      · go_wp2_with fail
        refine (nr.word (Nat.le_refl _) (by simpa [saveS] using hx)).mono ?_
        rintro e w4 ⟨rfl, n4⟩
        clear nr
        go_wp2_with fail
        exact ⟨⟨j + 1, by omega, by go_num, n4⟩, by simp [intOf]; omega⟩
      · have hjm : m % 21 = j := by omega
        have hj20 : j ≤ 20 := by omega
        clear hjm hj
        go_wp2_with fail
        refine (nr.ask fun F hF => Save_any _ _ F _ hF).mono ?_
        rintro e w4 ⟨rfl, k4, rfl⟩
        have b4 := Both.start (nr.drewN k4)
        clear nr n1
        unfold saveS
        go_wp2_with fail
        go_loopw [55, 15] (fun i v wr => ∃ q : Nat, (q : Int) ≤ n % 21 ∧ i = .int .u8 q ∧ Both w.heap.size w w1.heap.size (saveS x (j + q) 1) v q (wordsFrom x j q) wr) (fun i _ _ => 21 - (intOf i).toNat)
        case atStart => exact ⟨0, by omega, rfl, b4⟩
        case round =>
          obtain ⟨q, hq, rfl, br⟩ := hrel
          by_cases hlt2 : (q : Int) < n % 21
          · have hq20 : q < 20 := by omega
            go_wp2_with fail
            refine (br.did (Nat.le_refl _) fun F hF => Word_in _ _ F _ hF (by simpa [saveS] using hx)).mono ?_
            rintro e w5 ⟨rfl, b5 : Both w.heap.size w w1.heap.size (saveS x (j + (q + 1)) 1) _ q (wordsFrom x j q) w5⟩
            clear br b4
            unfold saveS
            have HA : Hid (q + 1 ≤ maxLen) := by show _ ≤ maxLen; unfold maxLen; omega
            have HB : Hid ((q + 1) * 16 ≤ 140737488355328) := by show (q + 1) * 16 ≤ 140737488355328; omega
            have HZ : Hid (w.heap.size ≤ (w5.alloc (.cells #[.string (wordS x (pos x (j + q)))] 9)).heap.size) := Nat.le_trans b5.below.size (by simp)
            have HN := Lib.hid (World.news_of_block (heap_alloc_new w5 (.cells #[.string (wordS x (pos x (j + q)))] 9)))
            go_wp2_with (at_builtin; refine wpList_append_lies _ rfl (.tmp 57) (.tmp 60) 22 rfl w.heap.size 9 i0 (.string .empty) 1 16 Try.underlying22 hi hz0 hz1 hz2 rfl (by decide) _ q (wordsFrom x j q) rfl (b5.row.alloc _) ⟨w5.heap.size, 0, none⟩ 1 1 [.string (wordS x (pos x (j + q)))] rfl rfl HN.out (by simp [Value.oneCell']) (by omega) HA.out HB.out HZ.out _ rfl ?_; intro g cap w6 hown hgr hat hlt6; have b6 := Lib.hid (b5.more (Nat.le_refl _) hown hgr hat); clear hown hgr hat hlt6)
            refine ⟨⟨q + 1, by omega, by go_num, ?_⟩, by simp [intOf]; omega⟩
            rw [wordsFrom_succ]
            exact b6.out
          · have hqn : n % 21 = q := by omega
            have hq20 : q ≤ 20 := by omega
            clear hqn hq
            have hc := pos_le x (j + q)
            have ha := pos_le x j
            go_wp2_with fail
            refine (br.ask fun F hF => In_any _ _ F _ hF).mono ?_
            rintro e w5 ⟨rfl, rfl⟩
            unfold saveS
            go_wp2_with fail
            refine (br.did (Nat.le_refl _) fun F hF => Open_yes _ _ F _ y hF hy (by simp [saveS]) (by simp [saveS])).mono ?_
            rintro e w5 ⟨rfl, b5 : Both w.heap.size w w1.heap.size ⟨⟨y, 2, 0⟩, [.none, ⟨x, 1, pos x (j + q)⟩], 2⟩ _ q (wordsFrom x j q) w5⟩
            clear br b4
            go_wp2_with fail
            refine (b5.ask fun F hF => Restore_no _ _ F _ hF hy 1 (pos x j) (.inr (.inl (by simp)))).mono ?_
            rintro e w6 ⟨rfl, rfl⟩
            go_wp2_with fail
            refine (b5.ask fun F hF => In_any _ _ F _ hF).mono ?_
            rintro e w6 ⟨rfl, rfl⟩
            go_wp2_with fail
            refine (b5.did (Nat.le_refl _) fun F hF => Word_in _ _ F _ hF hy).mono ?_
            rintro e w6 ⟨rfl, b6⟩
            clear b5
            go_wp2_with fail
            refine (b6.ask fun F hF => Save_any _ _ F _ hF).mono ?_
            rintro e w7 ⟨rfl, k7, rfl⟩
            have b7 := b6.drewN k7
            clear b6
            go_wp2_with fail
            refine (b7.did (Nat.le_refl _) fun F hF => Close_yes _ _ F _ hF [.none] ⟨x, 1, pos x (j + q)⟩ rfl (by decide)).mono ?_
            rintro e w8 ⟨rfl, b8 : Both w.heap.size w w1.heap.size (saveS x (j + q) 2) _ q (wordsFrom x j q) w8⟩
            clear b7
            go_wp2_with fail
            refine (b8.ask fun F hF => In_any _ _ F _ hF).mono ?_
            rintro e w9 ⟨rfl, rfl⟩
            unfold saveS
            go_wp2_with fail
            refine (b8.ask fun F hF => Text_any _ _ F _ hF).mono ?_
            rintro e w9 ⟨rfl, rfl⟩
            unfold saveS
            go_wp2_with fail
            refine (b8.ask fun F hF => Restore_no _ _ F _ hF (by simpa [saveS] using hx) 2 0 (.inr (.inl (by simp [saveS])))).mono ?_
            rintro e w9 ⟨rfl, rfl⟩
            go_wp2_with fail
            refine (b8.ask fun F hF => In_any _ _ F _ hF).mono ?_
            rintro e w9 ⟨rfl, rfl⟩
            unfold saveS
            go_wp2_with fail
            refine (b8.did (Nat.le_refl _) fun F hF => Restore_yes _ _ F _ hF (by simpa [saveS] using hx) (by simp [saveS]) (pos x j) (by simpa [saveS] using ha)).mono ?_
            rintro e w9 ⟨rfl, b9 : Both w.heap.size w w1.heap.size (saveS x (j + 0) 2) _ q (wordsFrom x j q) w9⟩
            clear b8
            go_wp2_with fail
            refine (b9.ask fun F hF => In_any _ _ F _ hF).mono ?_
            rintro e w10 ⟨rfl, rfl⟩
            unfold saveS
            obtain ⟨A, cap, rfl⟩ := row_shape b9.row
            go_wp2_with fail
            go_loopw [128] (fun i wr => ∃ k : Nat, k ≤ q ∧ i = .int .i64 k ∧ Both w.heap.size w w1.heap.size (saveS x (j + k) 2) (.slice A q cap) q (wordsFrom x j q) wr) (fun i _ => q - (intOf i).toNat)
            case atStart => exact ⟨0, Nat.zero_le _, rfl, b9⟩
            case round =>
              obtain ⟨k, hk, rfl, br⟩ := hrel
              rcases Nat.lt_or_ge k q with hlt3 | hge3
              · obtain ⟨g, cap', hA, _, _⟩ := br.row.form (by omega)
                injection hA with hA hn hc'
                subst hA
                subst hc'
                have hcell := br.row.cellAt k (by omega)
                rw [wordsFrom_at x j q k hlt3] at hcell
                go_wp2_with fail
                refine (br.did (Nat.le_refl _) fun F hF => Word_in _ _ F _ hF (by simpa [saveS] using hx)).mono ?_
                rintro e w10 ⟨rfl, b10 : Both w.heap.size w w1.heap.size (saveS x (j + (k + 1)) 2) _ q (wordsFrom x j q) w10⟩
                clear br b9 hcell
                unfold saveS
                go_wp2_with fail
                exact ⟨⟨k + 1, hlt3, by go_num, b10⟩, by simp [intOf]; omega⟩
              · have hkq : k = q := by omega
                subst hkq
                go_wp2_with fail
                refine (br.ask fun F hF => In_any _ _ F _ hF).mono ?_
                rintro e w10 ⟨rfl, rfl⟩
                unfold saveS
                go_wp2_with fail
                refine (br.ask fun F hF => Restore_no _ _ F _ hF (by simpa [saveS] using hx) 1 ((x.size : Int) + 1) (.inr (.inr (.inr (by simp [saveS]; omega))))).mono ?_
                rintro e w10 ⟨rfl, rfl⟩
                go_wp2_with fail
                refine (br.ask fun F hF => Restore_no _ _ F _ hF (by simpa [saveS] using hx) 1 (-1) (.inr (.inr (.inl (by decide))))).mono ?_
                rintro e w10 ⟨rfl, rfl⟩
                go_wp2_with fail
                refine (br.ask fun F hF => In_any _ _ F _ hF).mono ?_
                rintro e w10 ⟨rfl, rfl⟩
                unfold saveS
                go_wp2_with fail
                go_ret
                exact ⟨rfl, br.below⟩

end Go.Proofs.Ytnkepejdboppcaa
