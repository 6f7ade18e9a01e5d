/- SourceDeep: the walk of the law. -/
import Derived.Test.YtnkepejdboppcaaCuts
import Derived.Test.YtnkepejdboppcaaSaves
import Derived.StillTailTactics
import Derived.IntWalk
namespace Go.Proofs.Ytnkepejdboppcaa
open Go.RowKit

theorem info_int : (Try.prog.info? 3).map (fun i => (i.zero, i.size, i.bytes)) = some (some (.int .i64 0), 1, 8) := by kernel_rfl

/-- an Input, a row of texts and a row of ints, apart from each other, all newer than B -/
structure Three (B : Nat) (w : World) (b : Nat) (S : Ins) (v : Value) (xs : List Value) (u : Value) (ys : List Value) (n : Nat) (w' : World) : Prop where
  inn : ∃ F, InAt w' b F S ∧ (∀ f, f ∈ F → B ≤ f) ∧ (∀ g, g ∈ rowOf v → g ∉ F) ∧ ∀ g, g ∈ rowOf u → g ∉ F
  row : w'.ownsRow B 9 1 v n xs
  ints : w'.ownsRow B 3 1 u n ys
  below : Below B w w'
theorem rows_ne {w : World} {B e e' s s' n n' : Nat} {v u : Value} {xs ys : List Value} (h : w.ownsRow B e s v n xs) (k : w.ownsRow B e' s' u n' ys) (hne : e ≠ e') : ∀ g, g ∈ rowOf v → g ∉ rowOf u := by
  intro g hg hu
  rcases h.2 with ⟨rfl, _⟩ | ⟨g1, _, c1, rfl, _, h1, _⟩
  · simp [rowOf] at hg
  · rcases k.2 with ⟨rfl, _⟩ | ⟨g2, _, c2, rfl, _, h2, _⟩
    · simp [rowOf] at hu
    · simp [rowOf] at hg hu
      subst hg hu
      rw [h1] at h2
      injection h2 with h2
      injection h2 with _ h2
      exact hne h2
section
variable {B : Nat} {w w1 w2 w3 : World} {b n : Nat} {S T : Ins} {v u : Value} {xs ys : List Value}
theorem Three.start (h : New B w b S w1) : Three B w b S (.slice none 0 0) [] (.slice none 0 0) [] 0 w1 := by
  obtain ⟨⟨F, h1, h2⟩, h3⟩ := h
  exact ⟨⟨F, h1, h2, by simp [rowOf], by simp [rowOf]⟩, World.ownsRow_nil _ _ _ _, World.ownsRow_nil _ _ _ _, h3⟩
theorem Three.did {P : Program} {fn : FuncId} {args : Array Value} {r : Value} (h : Three B w b S v xs u ys n w1) (hB : B ≤ w.heap.size) (c : ∀ F, InAt w1 b F S → Calls P fn args w1 fun e w' => e = .returned r ∧ Left w1 b F T w') :
    Calls P fn args w1 fun e w' => e = .returned r ∧ Three B w b T v xs u ys n w' := by
  obtain ⟨⟨F, h1, h2, h4, h4'⟩, h5, h6, h3⟩ := h
  have hz := h3.size
  refine (c F h1).mono fun _ _ ⟨he, F', k1, k2, k3⟩ => ⟨he, ⟨F', k1, fun f hf => ?_, fun g hg hf => ?_, fun g hg hf => ?_⟩, row_touch h5 k2 h4, row_touch h6 k2 h4', h3.trans (k2.below (by omega) h2)⟩
  · rcases k3 f hf with h7 | h7
    · exact h2 f h7
    · omega
  · rcases k3 g hf with h7 | h7
    · exact h4 g hg h7
    · have := row_lt h5 hg; omega
  · rcases k3 g hf with h7 | h7
    · exact h4' g hg h7
    · have := row_lt h6 hg; omega
theorem Three.ask {P : Program} {fn : FuncId} {args : Array Value} {R : Ending → World → Prop} (h : Three B w b S v xs u ys n w1) (c : ∀ F, InAt w1 b F S → Calls P fn args w1 R) : Calls P fn args w1 R := by
  obtain ⟨⟨F, h1, _⟩, _⟩ := h
  exact c F h1
theorem Three.drewN (h : Three B w b S v xs u ys n w1) (k : Nat) : Three B w b S v xs u ys n (w1.drewN k) :=
  ⟨h.inn, h.row, h.ints, ⟨h.below.os, h.below.tape, h.below.output, h.below.size, h.below.block⟩⟩
/-- between the appends -/
theorem Three.mid {o : Obj} (h : Three B w b S v xs u ys n w1) (hB : B ≤ w.heap.size) (hg : (w1.alloc o).grownBy w2 v.ownBlock) : ∃ F, InAt w2 b F S ∧ w2.ownsRow B 3 1 u n ys ∧ Below B w w2 := by
  obtain ⟨⟨F, h1, h2, h4, h4'⟩, h5, h6, h3⟩ := h
  have hz := h3.size
  have ht : Touch (rowOf v) w1 w2 := ((Touch.refl _ w1).alloc o).grown hg fun k hk => .inl (rowOf_mem.2 hk)
  exact ⟨F, h1.touch ht fun f hf hv => h4 f hv hf, row_touch h6 ht fun g hu hv => rows_ne h5 h6 (by decide) g hv hu, h3.trans (ht.below (by omega) fun f hf => (h5.lt f (rowOf_mem.1 hf)).1)⟩
/-- behind both appends -/
theorem Three.more {o o' : Obj} {g cap g' cap' m : Nat} {zs zs' : List Value} (h : Three B w b S v xs u ys n w1) (hB : B ≤ w.heap.size) (hown : w2.ownsRow B 9 1 (.slice (some ⟨g, 0, none⟩) m cap) m zs) (hg : (w1.alloc o).grownBy w2 v.ownBlock)
    (hat : v.ownBlock = some g ∨ g = (w1.alloc o).heap.size) (hown' : w3.ownsRow B 3 1 (.slice (some ⟨g', 0, none⟩) m cap') m zs') (hg' : (w2.alloc o').grownBy w3 u.ownBlock)
    (hat' : u.ownBlock = some g' ∨ g' = (w2.alloc o').heap.size) : Three B w b S (.slice (some ⟨g, 0, none⟩) m cap) zs (.slice (some ⟨g', 0, none⟩) m cap') zs' m w3 := by
  obtain ⟨⟨F, h1, h2, h4, h4'⟩, h5, h6, h3⟩ := h
  have hz := h3.size
  have ht : Touch (rowOf v) w1 w2 := ((Touch.refl _ w1).alloc o).grown hg fun k hk => .inl (rowOf_mem.2 hk)
  have ht' : Touch (rowOf u) w2 w3 := ((Touch.refl _ w2).alloc o').grown hg' fun k hk => .inl (rowOf_mem.2 hk)
  have hs : (w1.alloc o).heap.size = w1.heap.size + 1 := by simp
  have hs' : (w2.alloc o').heap.size = w2.heap.size + 1 := by simp
  have hz2 := ht.size
  have i2 := h1.touch ht fun f hf hv => h4 f hv hf
  have i3 := i2.touch ht' fun f hf hv => h4' f hv hf
  have r3 : w3.ownsRow B 9 1 (.slice (some ⟨g, 0, none⟩) m cap) m zs := row_touch hown ht' fun x hx hu => by
    have hx' : x = g := by simpa [rowOf] using hx
    subst hx'
    rcases hat with h7 | h7
    · exact rows_ne h5 h6 (by decide) x (rowOf_mem.2 h7) hu
    · have := row_lt h6 hu; omega
  refine ⟨⟨F, i3, h2, fun x hx hf => ?_, fun x hx hf => ?_⟩, r3, hown', (h3.trans (ht.below (by omega) fun f hf => (h5.lt f (rowOf_mem.1 hf)).1)).trans (ht'.below (by omega) fun f hf => (h6.lt f (rowOf_mem.1 hf)).1)⟩
  · have hx' : x = g := by simpa [rowOf] using hx
    subst hx'
    rcases hat with h7 | h7
    · exact h4 x (rowOf_mem.2 h7) hf
    · have := h1.lt x hf; omega
  · have hx' : x = g' := by simpa [rowOf] using hx
    subst hx'
    rcases hat' with h7 | h7
    · exact h4' x (rowOf_mem.2 h7) hf
    · have := i2.lt x hf; omega
end

theorem still_left {P : Program} {f : FuncId} {args : Array Value} {w : World} {v : Value} (h : Calls P f args w fun e w' => e = .returned v ∧ w = w') : Calls P f args w fun e w'' => e = .returned v ∧ w'' = w :=
  h.mono fun _ _ ⟨he, hm⟩ => ⟨he, hm.symm⟩

def textsOf (xs : List ByteArray) : List Value := xs.map fun s => .string (cutS s)
def onsOf (xs : List ByteArray) : List Value := xs.map fun s => .int .i64 (wordN (cutS s) 0)
def redsM (xs : List ByteArray) (i M : Nat) : Ins := ⟨(reds (xs.take i)).cur, (reds (xs.take i)).outer, M⟩
theorem redsM_succ (xs : List ByteArray) (i M : Nat) (h : i < xs.length) : redsM xs (i + 1) M = ⟨⟨cutS (xs.getD i .empty), (reds (xs.take i)).many + 1, wordN (cutS (xs.getD i .empty)) 0⟩, (reds (xs.take i)).outer ++ [(reds (xs.take i)).cur], M⟩ := by
  unfold redsM; rw [reds_take xs i h]; rfl
theorem redsM_len (xs : List ByteArray) (i M : Nat) (h : i ≤ xs.length) : (redsM xs i M).outer.length = i := by
  have h1 := (reds_len (xs.take i) ins0).1
  show (reds (xs.take i)).outer.length = i
  unfold reds
  rw [h1, List.length_take]
  simp [ins0]; omega

set_option maxRecDepth 100000 in
set_option maxHeartbeats 1600000 in
theorem deep_walk (w : World) (v : Value) (ss : List ByteArray) (h : Strs w v ss) :
    Calls Try.prog 4 #[v] w fun e w' => e = .returned (.bool true) ∧ Below w.heap.size w w' := by
  obtain ⟨i0, hi, hz0, hz1, hz2⟩ := info_parts info_str
  obtain ⟨j0, ki, kz0, kz1, kz2⟩ := info_parts info_int
  go_enter Try.func4, Try.ntmps4
  go_wp2_with fail
  refine (shown8 w).mono ?_
  rintro e w1 ⟨rfl, hb1⟩
  go_wp2_with fail
  refine (New_in w1).mono ?_
  rintro e w2 ⟨rfl, hp, tp⟩
  have n0 := New.later hb1 hp tp
  clear hp tp
  go_upto_region 5 with (fail)
  go_cut [5] (fun s8 wx => w2 = wx ∧ Eight w s8)
  case first =>
    have HS := Lib.hid h.size
    clear hi hz0 hz1 hz2 ki kz0 kz1 kz2
    rcases h.form with ⟨rfl, rfl⟩ | ⟨a, cap, rfl, hcap, rfl⟩ | ⟨b, off, cap, rfl, hbl, hlc, hcap, hcell⟩
    · clear h
      go_wp2_with fail
      go_meet
      exact ⟨rfl, none, 0, [], rfl, Texts.none_ _ _, by simp⟩
    · clear h
      go_wp2_with fail
      go_meet
      exact ⟨rfl, some a, cap, [], rfl, Texts.none_ _ _, by simp⟩
    · have HT := Strs.take hbl hcell HS.out 8
      clear h hcell
      rcases Nat.lt_or_ge 8 ss.length with h8 | h8
      · have e : (ss.take 8).length = 8 := by rw [List.length_take]; omega
        have HE := Lib.hid e
        clear e
        go_wp2_with fail
        go_meet
        exact ⟨rfl, some ⟨b, off, none⟩, cap, ss.take 8, by rw [HE.out], HT, Nat.le_of_eq HE.out⟩
      · have e : (ss.take 8).length = ss.length := by rw [List.length_take]; omega
        have HE := Lib.hid e
        clear e
        go_wp2_with fail
        go_meet
        exact ⟨rfl, some ⟨b, off, none⟩, cap, ss.take 8, by rw [HE.out], HT, by rw [HE.out]; exact h8⟩
  case rest =>
    obtain ⟨rfl, A, cap, xs, rfl, hT, hx8⟩ := hcut
    go_wp2_with fail
    go_loopw [24, 6, 7] (fun i v u wr => ∃ k : Nat, k ≤ xs.length ∧ i = .int .i64 k ∧ Three w.heap.size w w1.heap.size (redsM xs k k) v (textsOf (xs.take k)) u (onsOf (xs.take k)) k wr) (fun i _ _ _ => xs.length - (intOf i).toNat)
    case atStart => exact ⟨0, Nat.zero_le _, rfl, Three.start n0⟩
    case round =>
      obtain ⟨k, hk, rfl, hL⟩ := hrel
      rcases Nat.lt_or_ge k xs.length with hlt | hge
      · obtain ⟨b, off, hA, hbl, hc⟩ := hT.at_ k hlt
        subst hA
        have hsz := hT.size k hlt
        have hcr := (hL.below.cell (p := ⟨b, off + k, none⟩) hbl).trans hc
        have HX := Lib.hid (redsM_succ xs k (k + 1) hlt)
        have HM : Hid ((reds (xs.take k)).many = k) := by
          show _ = _
          have h2 := (reds_len (xs.take k) ins0).2
          unfold reds
          rw [h2, List.length_take]
          simp [ins0]; omega
        have hx1 : textsOf (xs.take (k + 1)) = textsOf (xs.take k) ++ [.string (cutS (xs.getD k .empty))] := by
          unfold textsOf; rw [List.take_succ_eq_append_getElem hlt, List.map_append]; simp [List.getD, hlt]
        have hx2 : onsOf (xs.take (k + 1)) = onsOf (xs.take k) ++ [.int .i64 (wordN (cutS (xs.getD k .empty)) 0)] := by
          unfold onsOf; rw [List.take_succ_eq_append_getElem hlt, List.map_append]; simp [List.getD, hlt]
        have HX1 := Lib.hid hx1
        have HX2 := Lib.hid hx2
        obtain ⟨s, hs⟩ : ∃ s, xs.getD k .empty = s := ⟨_, rfl⟩
        rw [hs] at hcr hsz HX HX1 HX2
        clear hc hs hx1 hx2
        unfold maxLen at hsz
        have hl1 : (redsM xs k k).outer.length < 8 := by rw [redsM_len xs k k hk]; omega
        have hm1 : (redsM xs k k).many < 1000000 := by show k < 1000000; omega
        rcases Nat.lt_or_ge 1000 s.size with hs | hs
        case' inl =>
          obtain ⟨t, ht⟩ : ∃ t, s.extract 0 1000 = t := ⟨_, rfl⟩
          have hc : cutS s = t := by unfold cutS; rw [show min s.size 1000 = 1000 by omega, ht]
          have ht1 : t.size ≤ 1000 := hc ▸ cutS_le s
          have HC := Lib.hid hc
          have HE := Lib.hid ht
          clear ht hc
          go_wp2_with fail
          rw [HE.out]
          clear HE hs hsz hcr
        case' inr =>
          obtain ⟨t, ht⟩ : ∃ t, t = s := ⟨_, rfl⟩
          have hc : cutS s = t := by rw [ht]; exact cutS_of_le hs
          have ht1 : t.size ≤ 1000 := ht ▸ hs
          subst ht
          have HC := Lib.hid hc
          clear hc
          go_wp2_with fail
          clear hs hsz hcr
        all_goals
          rw [HC.out, HM.out] at HX
          rw [HC.out] at HX1 HX2
          refine (hL.did (Nat.le_refl _) fun F hF => Open_yes wr _ F _ t hF ht1 hl1 hm1).mono ?_
          rintro e w4 ⟨rfl, t4⟩
          clear hL
          go_wp2_with fail
          refine (t4.did (Nat.le_refl _) fun F hF => Word_in w4 _ F _ hF ht1).mono ?_
          rintro e w5 ⟨rfl, t5'⟩
          have t5 : Three w.heap.size w w1.heap.size (redsM xs (k + 1) (k + 1)) u6 (textsOf (xs.take k)) u7 (onsOf (xs.take k)) k w5 := by rw [HX.out]; exact t5'
          clear t5' t4
          have HA : Hid (k + 1 ≤ maxLen) := by show _ ≤ maxLen; unfold maxLen; omega
          have HB : Hid ((k + 1) * 16 ≤ 140737488355328) := by show (k + 1) * 16 ≤ 140737488355328; omega
          have HB8 : Hid ((k + 1) * 8 ≤ 140737488355328) := by show (k + 1) * 8 ≤ 140737488355328; omega
          have HZ : Hid (w.heap.size ≤ (w5.alloc (.cells #[.string t] 9)).heap.size) := Nat.le_trans t5.below.size (by simp)
          have HN := Lib.hid (World.news_of_block (heap_alloc_new w5 (.cells #[.string t] 9)))
          have HIn : Hid (∀ W F, InAt W w1.heap.size F (redsM xs (k + 1) (k + 1)) → Calls Try.prog 16 #[.pointer (some ⟨w1.heap.size, 0, none⟩)] W fun e w' => e = .returned (.int .i64 (wordN t 0)) ∧ W = w') := fun W F hF => by
            have h := In_any W _ F _ hF
            rw [show (redsM xs (k + 1) (k + 1)).cur.on = wordN t 0 by rw [HX.out]] at h
            exact h
          go_wp2_with (at_builtin; refine wpList_append_lies _ rfl (.tmp 39) (.tmp 41) 22 rfl w.heap.size 9 i0 (.string .empty) 1 16 Try.underlying22 hi hz0 hz1 hz2 rfl (by decide) _ k (textsOf (xs.take k)) rfl (t5.row.alloc _) ⟨w5.heap.size, 0, none⟩ 1 1 [.string t] rfl rfl HN.out (by simp [Value.oneCell']) (by omega) HA.out HB.out HZ.out _ rfl ?_; intro g cap6 w6 hown hgr hat hlt6; have G6 := Lib.hid (And.intro hown (And.intro hgr (And.intro hat hlt6))); clear hown hgr hat hlt6)
          obtain ⟨F6, hF6, hr6, hb6⟩ := t5.mid (Nat.le_refl _) G6.out.2.1
          refine (HIn.out _ F6 hF6).mono ?_
          rintro e w7 ⟨rfl, rfl⟩
          have HN2 := Lib.hid (World.news_of_block (heap_alloc_new w6 (.cells #[.int .i64 (wordN t 0)] 3)))
          have HZ2 : Hid (w.heap.size ≤ (w6.alloc (.cells #[.int .i64 (wordN t 0)] 3)).heap.size) := Nat.le_trans hb6.size (by simp)
          go_wp2_with (at_builtin; refine wpList_append_lies _ rfl (.tmp 43) (.tmp 46) 37 rfl w.heap.size 3 j0 (.int .i64 0) 1 8 Try.underlying37 ki kz0 kz1 kz2 rfl (by decide) _ k (onsOf (xs.take k)) rfl (hr6.alloc _) ⟨w6.heap.size, 0, none⟩ 1 1 [.int .i64 (wordN t 0)] rfl rfl HN2.out (by simp [Value.oneCell']) (by omega) HA.out HB8.out HZ2.out _ rfl ?_; intro g' cap7 w7 hown hgr hat hlt7; have t7 := Lib.hid (t5.more (Nat.le_refl _) G6.out.1 G6.out.2.1 G6.out.2.2.1 hown hgr hat); clear hown hgr hat hlt7)
          refine ⟨⟨k + 1, hlt, by go_num, ?_⟩, by simp [intOf]; omega⟩
          rw [HX1.out, HX2.out]
          exact t7.out
      · obtain rfl : k = xs.length := by omega
        have hlen := redsM_len xs xs.length xs.length (Nat.le_refl _)
        have HLen := Lib.hid hlen
        obtain ⟨A2, cap2, rfl⟩ := row_shape hL.row
        obtain ⟨A3, cap3, rfl⟩ := row_shape hL.ints
        clear hlen hT n0
        rcases Nat.lt_or_ge xs.length 8 with h8 | h8
        case' inl =>
          have e8 : ((xs.length : Int) == 8) = false := by rw [beq_eq_false_iff_ne]; omega
          go_wp2_with fail
        case' inr =>
          have h88 : xs.length = 8 := by omega
          have e8 : ((xs.length : Int) == 8) = true := by simp [h88]
          have e8' : ((xs.length : Int) != 8) = false := by simp [h88]
          have hd := Lib.hid (hL.ask fun F hF => Open_deep wr _ F _ ⟨#[109, 111, 114, 101]⟩ hF (by decide) (by rw [HLen.out]; exact h8))
          have hd2 := Lib.hid (hL.ask fun F hF => Depth_any wr _ F _ hF)
          rw [HLen.out] at hd2
          clear h88
          go_wp2_with fail
          refine (hd.out).mono ?_
          rintro e w8 ⟨rfl, rfl⟩
          go_wp2_with fail
          refine (hd2.out).mono ?_
          rintro e w8 ⟨rfl, rfl⟩
          clear hd hd2
          go_wp2_with fail
        all_goals
          clear e8 h8
          try clear e8'
          rw [List.take_length] at hL
          go_loopw [11] (fun i wx => ∃ q : Nat, q ≤ xs.length ∧ i = .int .i64 ((q : Int) - 1) ∧ Three w.heap.size w w1.heap.size (redsM xs q xs.length) (.slice A2 xs.length cap2) (textsOf xs) (.slice A3 xs.length cap3) (onsOf xs) xs.length wx) (fun i _ => (intOf i + 1).toNat)
          case atStart => exact ⟨xs.length, Nat.le_refl _, rfl, hL⟩
          case round =>
            obtain ⟨q, hq, hiq, hR⟩ := hrel
            rcases q with _ | p
            · have hiq' : u11 = .int .i64 (-1) := hiq
              subst hiq'
              clear hiq
              have hlen := redsM_len xs 0 xs.length (Nat.zero_le _)
              have HN := Lib.hid (hR.ask fun F hF => Close_none _ _ F _ hF hlen)
              have HD := Lib.hid (hR.ask fun F hF => Depth_any _ _ F _ hF)
              rw [hlen] at HD
              have HT := Lib.hid (hR.ask fun F hF => Text_any _ _ F _ hF)
              have HI := Lib.hid (hR.ask fun F hF => In_any _ _ F _ hF)
              have HW := Lib.hid (hR.did (Nat.le_refl _) fun F hF => Word_in _ _ F _ hF (by show (0 : Nat) ≤ 1000; omega))
              have HE : Hid (wordS (redsM xs 0 xs.length).cur.text (redsM xs 0 xs.length).cur.on = .empty) := str_ext (by show (wordS .empty ((0 : Nat) : Int)).data.toList = _; decide +kernel)
              rw [HE.out] at HW
              have HT' : Hid (Calls Try.prog 15 #[.pointer (some ⟨w1.heap.size, 0, none⟩)] wr fun e w' => e = .returned (.string .empty) ∧ wr = w') := HT.out
              have HI' : Hid (Calls Try.prog 16 #[.pointer (some ⟨w1.heap.size, 0, none⟩)] wr fun e w' => e = .returned (.int .i64 0) ∧ wr = w') := HI.out
              clear hlen HE HT HI
              go_wp2_with fail
              refine HN.out.mono ?_
              rintro e w3 ⟨rfl, rfl⟩
              go_wp2_with fail
              refine HD.out.mono ?_
              rintro e w3 ⟨rfl, rfl⟩
              go_wp2_with fail
              refine HT'.out.mono ?_
              rintro e w3 ⟨rfl, rfl⟩
              go_wp2_with fail
              refine HI'.out.mono ?_
              rintro e w3 ⟨rfl, rfl⟩
              go_wp2_with fail
              refine HW.out.mono ?_
              rintro e w3 ⟨rfl, t3⟩
              have hb3 := t3.below
              go_wp2_with fail
              refine (Open_nil _ _).mono ?_
              rintro e w4 ⟨rfl, rfl⟩
              go_wp2_with fail
              refine (Close_nil _).mono ?_
              rintro e w4 ⟨rfl, rfl⟩
              go_wp2_with fail
              refine (Word_nil _).mono ?_
              rintro e w4 ⟨rfl, rfl⟩
              go_wp2_with fail
              refine (Depth_nil _).mono ?_
              rintro e w4 ⟨rfl, rfl⟩
              go_wp2_with fail
              refine (Restore_nil _).mono ?_
              rintro e w4 ⟨rfl, rfl⟩
              go_wp2_with fail
              go_ret
              exact ⟨rfl, hb3⟩
            · have hiq' : u11 = .int .i64 (p : Int) := by rw [hiq]; congr 1; omega
              subst hiq'
              clear hiq
              obtain ⟨g, c2', hA2, _, _⟩ := hR.row.form (by omega)
              injection hA2 with hA2 hn2 hc2
              subst hA2 hc2
              obtain ⟨g3, c3', hA3, _, _⟩ := hR.ints.form (by omega)
              injection hA3 with hA3 hn3 hc3
              subst hA3 hc3
              clear hn2 hn3
              have c1 := hR.row.cellAt p (by omega)
              have c2 := hR.ints.cellAt p (by omega)
              have x1 : (textsOf xs)[p]? = some (.string (cutS (xs.getD p .empty))) := by unfold textsOf; rw [List.getElem?_map, List.getElem?_eq_getElem (by omega)]; simp [List.getD, show p < xs.length by omega]
              have x2 : (onsOf xs)[p]? = some (.int .i64 (wordN (cutS (xs.getD p .empty)) 0)) := by unfold onsOf; rw [List.getElem?_map, List.getElem?_eq_getElem (by omega)]; simp [List.getD, show p < xs.length by omega]
              rw [x1] at c1
              rw [x2] at c2
              have hs := redsM_succ xs p xs.length (by omega)
              have hlen := redsM_len xs (p + 1) xs.length hq
              obtain ⟨t, ht⟩ : ∃ t, cutS (xs.getD p .empty) = t := ⟨_, rfl⟩
              rw [ht] at c1 c2 hs
              have hR1 : Three w.heap.size w w1.heap.size (redsM xs (p + 1) xs.length) _ (textsOf xs) _ (onsOf xs) xs.length wr.drew := hR.drewN 1
              have HD := Lib.hid (hR1.ask fun F hF => Depth_any _ _ F _ hF)
              have HT := Lib.hid (hR1.ask fun F hF => Text_any _ _ F _ hF)
              have HI := Lib.hid (hR1.ask fun F hF => In_any _ _ F _ hF)
              have HC := Lib.hid (hR1.did (Nat.le_refl _) fun F hF => Close_yes _ _ F _ hF (redsM xs p xs.length).outer (redsM xs p xs.length).cur (by rw [hs]; rfl) (by rw [redsM_len xs p xs.length (by omega)]; omega))
              rw [hlen] at HD
              rw [show (redsM xs (p + 1) xs.length).cur.text = t by rw [hs]] at HT
              rw [show (redsM xs (p + 1) xs.length).cur.on = wordN t 0 by rw [hs]] at HI
              clear x1 x2 hs hlen ht hR1
              have hw1 : IntKind.i64.wrap ((p : Int) + 1) = (p : Int) + 1 := IntWalk.i64_in _ (by omega)
              have h0p : (0 : Int) ≤ p := by omega
              have hpl : (p : Int) < xs.length := by omega
              go_wp2_with fail
              go_still_tail 25, (by kernel_rfl)
              still_call (still_left HD.out)
              repeat still_step
              still_call (still_left HT.out)
              repeat still_step
              still_call (still_left HI.out)
              repeat still_step
              refine wpStill_nil ?_
              change wpList _ _ _ _ _ wr.drew
              go_wp2_with (go_at_call 12; refine HC.out.mono ?_; rintro e w6 ⟨rfl, t6⟩)
              exact ⟨⟨p, by omega, rfl, t6⟩, by simp [intOf]⟩

end Go.Proofs.Ytnkepejdboppcaa
