/- SourceCuts: the walk of the law. -/
import Derived.Test.YtnkepejdboppcaaShown8
import Derived.Test.YtnkepejdboppcaaLaw
import Derived.Deep.DeepCutAuto
namespace Go.Proofs.Ytnkepejdboppcaa
open Go.ChangeShapes Go.WideShapes Go.ChangeAt Go.RowKit

/-- two Inputs, apart from each other, both newer than B -/
structure Two (B : Nat) (w : World) (bp : Nat) (S : Ins) (bq : Nat) (T : Ins) (w' : World) : Prop where
  inn : ∃ F G, InAt w' bp F S ∧ InAt w' bq G T ∧ (∀ f, f ∈ F → B ≤ f ∧ f ∉ G) ∧ ∀ g, g ∈ G → B ≤ g
  below : Below B w w'
section
variable {B : Nat} {w w1 w2 : World} {bp bq : Nat} {S T U : Ins}
theorem Two.swap (h : Two B w bp S bq T w1) : Two B w bq T bp S w1 := by
  obtain ⟨⟨F, G, h1, h2, h3, h4⟩, h5⟩ := h
  exact ⟨⟨G, F, h2, h1, fun g hg => ⟨h4 g hg, fun hf => (h3 g hf).2 hg⟩, fun f hf => (h3 f hf).1⟩, h5⟩
theorem Two.put {F G : List Nat} (_h1 : InAt w1 bp F S) (h2 : InAt w1 bq G T) (h3 : ∀ f, f ∈ F → B ≤ f ∧ f ∉ G) (h4 : ∀ g, g ∈ G → B ≤ g) (h5 : Below B w w1) (hB : B ≤ w.heap.size) (k : Left w1 bp F U w2) : Two B w bp U bq T w2 := by
  obtain ⟨F', k1, k2, k3⟩ := k
  have hz := h5.size
  refine ⟨⟨F', G, k1, h2.touch k2 fun g hg hf => (h3 g hf).2 hg, fun f hf => ?_, h4⟩, h5.trans (k2.below (by omega) fun f hf => (h3 f hf).1)⟩
  rcases k3 f hf with h6 | h6
  · exact h3 f h6
  · exact ⟨by omega, fun hg => by have := h2.lt f hg; omega⟩
theorem Two.did {P : Program} {fn : FuncId} {args : Array Value} {v : Value} (h : Two B w bp S bq T w1) (hB : B ≤ w.heap.size) (c : ∀ F, InAt w1 bp F S → Calls P fn args w1 fun e w' => e = .returned v ∧ Left w1 bp F U w') :
    Calls P fn args w1 fun e w' => e = .returned v ∧ Two B w bp U bq T w' := by
  obtain ⟨⟨F, G, h1, h2, h3, h4⟩, h5⟩ := h
  exact (c F h1).mono fun e w' ⟨he, hl⟩ => ⟨he, Two.put h1 h2 h3 h4 h5 hB hl⟩
theorem Two.ask {P : Program} {fn : FuncId} {args : Array Value} {R : Ending → World → Prop} (h : Two B w bp S bq T w1) (c : ∀ F, InAt w1 bp F S → Calls P fn args w1 R) : Calls P fn args w1 R := by
  obtain ⟨⟨F, G, h1, h2, h3, h4⟩, h5⟩ := h
  exact c F h1
theorem Two.new {G : List Nat} (h1 : InAt w1 bq G T) (h4 : ∀ g, g ∈ G → B ≤ g) (h5 : Below B w w1) (hB : B ≤ w.heap.size) (h2 : InAt w2 w1.heap.size [w1.heap.size] ins0) (ht : Touch [] w1 w2) : Two B w w1.heap.size ins0 bq T w2 := by
  have hz := h5.size
  exact ⟨⟨_, G, h2, h1.touch ht (by simp), by simp; exact ⟨by omega, fun hg => by have := h1.lt _ hg; omega⟩, h4⟩, h5.trans (ht.below (by omega) (by simp))⟩
theorem Two.drewN (h : Two B w bp S bq T w1) (n : Nat) : Two B w bp S bq T (w1.drewN n) := by
  obtain ⟨h1, h2⟩ := h
  exact ⟨h1, ⟨h2.os, h2.tape, h2.output, h2.size, h2.block⟩⟩
end

/-- a text cut to 1000 bytes -/
def cutS (s : ByteArray) : ByteArray := s.extract 0 (min s.size 1000)
theorem cutS_of_le {s : ByteArray} (h : s.size ≤ 1000) : cutS s = s := by
  unfold cutS; rw [show min s.size 1000 = s.size by omega]
  refine str_ext ?_
  rw [ext_list, ← str_size, List.take_length, List.drop_zero]
theorem cutS_le (s : ByteArray) : (cutS s).size ≤ 1000 := by unfold cutS; rw [ByteArray.size_extract]; omega
/-- a text opened, and a word of it read -/
def Ins.redT (S : Ins) (t : ByteArray) : Ins := ⟨⟨t, S.many + 1, wordN t 0⟩, S.outer ++ [S.cur], S.many + 1⟩
def Ins.red (S : Ins) (s : ByteArray) : Ins := S.redT (cutS s)
def reds (ss : List ByteArray) : Ins := ss.foldl Ins.red ins0
theorem reds_len : ∀ (ss : List ByteArray) (S : Ins), (ss.foldl Ins.red S).outer.length = S.outer.length + ss.length ∧ (ss.foldl Ins.red S).many = S.many + ss.length
  | [], S => by simp
  | s :: ss, S => by
    obtain ⟨h1, h2⟩ := reds_len ss (S.red s)
    have e1 : (S.red s).outer.length = S.outer.length + 1 := by simp [Ins.red, Ins.redT]
    have e2 : (S.red s).many = S.many + 1 := rfl
    rw [List.foldl_cons, h1, h2, e1, e2, List.length_cons]
    omega
theorem reds_snoc (ss : List ByteArray) (s : ByteArray) : reds (ss ++ [s]) = (reds ss).red s := by simp [reds]
theorem reds_take (ss : List ByteArray) (k : Nat) (h : k < ss.length) : reds (ss.take (k + 1)) = (reds (ss.take k)).red (ss.getD k .empty) := by
  rw [List.take_succ_eq_append_getElem h, reds_snoc]
  simp [List.getD, h]

/-- what the loop over the texts holds -/
def Loaded (B : Nat) (w : World) (bp bq : Nat) (ss : List ByteArray) (k : Nat) (wr : World) : Prop := Two B w bp (reds (ss.take k)) bq (reds (ss.take k)) wr

/-- the first eight -/
def Eight (w : World) (s8 : Value) : Prop := ∃ A cap xs, s8 = .slice A (List.length xs) cap ∧ Texts w A xs ∧ xs.length ≤ 8
theorem loaded_next {B : Nat} {w w1 : World} {bp bq k : Nat} {xs : List ByteArray} (h : Two B w bp (reds (xs.take (k + 1))) bq (reds (xs.take (k + 1))) w1) : Loaded B w bp bq xs (k + 1) w1 := h

theorem info_u8 : (Try.prog.info? 5).map (fun i => (i.zero, i.size, i.bytes)) = some (some (.int .u8 0), 1, 1) := by kernel_rfl
/-- 1,001 bytes that are 0 -/
def zeros : Obj := .cells (madeCells #[.int .u8 0] 1001) 5
theorem make_zeros (u : World) : (Instr.makeSlice 35 (.int .i64 1001) (.int .i64 1001)).run Try.prog u = .ok (.slice (some ⟨u.heap.size, 0, none⟩) 1001 1001) (u.alloc zeros) := by
  obtain ⟨i0, hi, hz0, hz1, hz2⟩ := info_parts info_u8
  have h := run_make (P := Try.prog) u 35 5 i0 (.int .u8 0) Try.underlying35 hi hz0 .i64 .i64 1001 1001 (by omega) (by omega) (by rw [hz2]; omega) (by omega)
  rw [hz1] at h
  exact h

def long : ByteArray := ⟨(List.replicate 1001 (0 : UInt8)).toArray⟩
theorem long_size : long.size = 1001 := by rw [← str_size]; exact List.length_replicate
theorem convert_zeros (u : World) : (convert 35 9 (.slice (some ⟨u.heap.size, 0, none⟩) 1001 1001)).run Try.prog (u.alloc zeros) = .ok (.string long) (u.alloc zeros) := by
  have h := run_convert_bytes_back (P := Try.prog) (u.alloc zeros) 35 9 5 ⟨u.heap.size, 0, none⟩ 1001 (List.replicate 1001 (0 : UInt8)) Try.underlying35 Try.underlying5 Try.underlying9 (fun j hj => by
    rw [List.length_replicate] at hj
    unfold zeros
    rw [add_plain, Nat.zero_add, (Blk.new u 5 (madeCells #[.int .u8 0] 1001)).cell, ← Array.getElem?_toList, toList_madeCells_one, List.getElem?_replicate, if_pos hj, List.getElem_replicate]
    rfl)
  rw [List.length_replicate] at h
  exact h

set_option maxRecDepth 100000 in
set_option maxHeartbeats 1600000 in
theorem cuts_walk (w : World) (v : Value) (ss : List ByteArray) (n : Int) (h : Strs w v ss) :
    Calls Try.prog 3 #[v, .int .i64 n] w fun e w' => e = .returned (.bool true) ∧ Below w.heap.size w w' := by
  go_enter Try.func3, Try.ntmps3
  go_wp2_with fail
  refine (shown8 w).mono ?_
  rintro e w1 ⟨rfl, hb1⟩
  go_wp2_with fail
  refine (New_in w1).mono ?_
  rintro e w2 ⟨rfl, hp, tp⟩
  go_wp2_with fail
  refine (New_in w2).mono ?_
  rintro e w3 ⟨rfl, hq, tq⟩
  have hz1 := hb1.size
  have two : Two w.heap.size w w2.heap.size ins0 w1.heap.size ins0 w3 := Two.new hp (by simpa using hz1) (hb1.trans (tp.below hz1 (by simp))) (Nat.le_refl _) hq tq
  have hb3 := two.below
  have l0 := two.swap
  clear two hp tp hq tq hb1
  go_upto_region 5 with (fail)
  go_cut [8] (fun s8 wx => w3 = wx ∧ Eight w s8)
  case first =>
    have HS := Lib.hid h.size
    rcases h.form with ⟨rfl, rfl⟩ | ⟨a, cap, rfl, hcap, rfl⟩ | ⟨b, off, cap, rfl, hbl, hlc, hcap, hcell⟩
    · clear h
      go_wp2_with fail
      go_meet
      exact ⟨rfl, none, 0, [], rfl, Texts.none_ _ _, by simp⟩
    · clear h
      go_wp2_with fail
      go_meet
      exact ⟨rfl, some a, cap, [], rfl, Texts.none_ _ _, by simp⟩
    · have HT := Strs.take hbl hcell HS.out 8
      clear h hcell
      rcases Nat.lt_or_ge 8 ss.length with h8 | h8
      · have e : (ss.take 8).length = 8 := by rw [List.length_take]; omega
        have HE := Lib.hid e
        clear e
        go_wp2_with fail
        go_meet
        exact ⟨rfl, some ⟨b, off, none⟩, cap, ss.take 8, by rw [HE.out], HT, Nat.le_of_eq HE.out⟩
      · have e : (ss.take 8).length = ss.length := by rw [List.length_take]; omega
        have HE := Lib.hid e
        clear e
        go_wp2_with fail
        go_meet
        exact ⟨rfl, some ⟨b, off, none⟩, cap, ss.take 8, by rw [HE.out], HT, by rw [HE.out]; exact h8⟩
  case rest =>
    obtain ⟨rfl, A, cap, xs, rfl, hT, hx8⟩ := hcut
    obtain ⟨bp, rfl⟩ : ∃ bp, bp = w1.heap.size := ⟨_, rfl⟩
    go_wp2_with fail
    go_loopw [32] (fun i wr => ∃ k : Nat, k ≤ xs.length ∧ i = .int .i64 k ∧ Loaded w.heap.size w w1.heap.size w2.heap.size xs k wr) (fun i _ => xs.length - (intOf i).toNat)
    case atStart => exact ⟨0, Nat.zero_le _, rfl, l0⟩
    case round =>
      obtain ⟨k, hk, rfl, hL⟩ := hrel
      rcases Nat.lt_or_ge k xs.length with hlt | hge
      · obtain ⟨b, off, hA, hbl, hc⟩ := hT.at_ k hlt
        subst hA
        have hsz := hT.size k hlt
        have hcr := (hL.below.cell (p := ⟨b, off + k, none⟩) hbl).trans hc
        have HX := Lib.hid (reds_take xs k hlt)
        obtain ⟨s, hs⟩ : ∃ s, xs.getD k .empty = s := ⟨_, rfl⟩
        rw [hs] at hcr hsz HX
        clear hc hs
        unfold maxLen at hsz
        obtain ⟨hl1, hm1⟩ : (reds (xs.take k)).outer.length < 8 ∧ (reds (xs.take k)).many < 1000000 := by
          obtain ⟨h1, h2⟩ := reds_len (xs.take k) ins0
          unfold reds
          rw [h1, h2, List.length_take]
          exact ⟨by simp [ins0]; omega, by simp [ins0]; omega⟩
        rcases Nat.lt_or_ge 1000 s.size with hs | hs
        case' inl =>
          obtain ⟨t, ht⟩ : ∃ t, s.extract 0 1000 = t := ⟨_, rfl⟩
          have hc : cutS s = t := by unfold cutS; rw [show min s.size 1000 = 1000 by omega, ht]
          have ht1 : t.size ≤ 1000 := hc ▸ cutS_le s
          have HX' : Hid (reds (xs.take (k + 1)) = (reds (xs.take k)).redT t) := by rw [HX.out, Ins.red, hc]; exact rfl
          have HE := Lib.hid ht
          clear ht HX hc
          go_wp2_with fail
          rw [HE.out]
          clear HE hs hsz hcr
        case' inr =>
          obtain ⟨t, ht⟩ : ∃ t, t = s := ⟨_, rfl⟩
          have hc : cutS s = t := by rw [ht]; exact cutS_of_le hs
          have ht1 : t.size ≤ 1000 := ht ▸ hs
          have HX' : Hid (reds (xs.take (k + 1)) = (reds (xs.take k)).redT t) := by rw [HX.out, Ins.red, hc]; exact rfl
          subst ht
          clear HX hc
          go_wp2_with fail
          clear hs hsz hcr
        all_goals
          refine (hL.did (Nat.le_refl _) fun F hF => Open_yes wr _ F _ t hF ht1 hl1 hm1).mono ?_
          rintro e w4 ⟨rfl, t4⟩
          go_wp2_with fail
          refine (t4.swap.did (Nat.le_refl _) fun F hF => Open_yes w4 _ F _ t hF ht1 hl1 hm1).mono ?_
          rintro e w5 ⟨rfl, t5⟩
          go_wp2_with fail
          refine (t5.swap.did (Nat.le_refl _) fun F hF => Word_in w5 _ F _ hF ht1).mono ?_
          rintro e w6 ⟨rfl, t6⟩
          go_wp2_with fail
          refine (t6.swap.did (Nat.le_refl _) fun F hF => Word_in w6 _ F _ hF ht1).mono ?_
          rintro e w7 ⟨rfl, t7⟩
          have t8 : Two w.heap.size w w1.heap.size (reds (xs.take (k + 1))) w2.heap.size (reds (xs.take (k + 1))) w7 := by rw [HX'.out]; exact t7.swap
          clear t4 t5 t6 t7 hL
          go_wp2_with fail
          exact ⟨⟨k + 1, hlt, by go_num, t8⟩, by simp [intOf]; omega⟩
      · obtain rfl : k = xs.length := by omega
        have hlen := (reds_len xs ins0).1
        have hL2 : Two w.heap.size w w1.heap.size (reds xs) w2.heap.size (reds xs) wr := by have := hL; unfold Loaded at this; rw [List.take_length] at this; exact this
        clear hL hT l0
        obtain ⟨S, hS⟩ : ∃ S, reds xs = S := ⟨_, rfl⟩
        have hlS : S.outer.length = xs.length := by rw [← hS]; unfold reds; rw [hlen]; simp [ins0]
        have HL := Lib.hid hlS
        rw [hS] at hL2
        have hd8 : S.outer.length ≤ 8 := by omega
        clear hlen hS hlS hk hge
        go_wp2_with fail
        refine (hL2.did (Nat.le_refl _) fun F hF => Cut_any wr _ F S hF n hd8).mono ?_
        rintro e w4 ⟨rfl, t4⟩
        obtain ⟨K, hK⟩ : ∃ K, min n.toNat xs.length = K := ⟨_, rfl⟩
        have hcut : S.cutAll n.toNat = S.cutAll K := by
          rw [← hK]
          rcases Nat.lt_or_ge n.toNat xs.length with h1 | h1
          · rw [show min n.toNat xs.length = n.toNat by omega]
          · rw [cutAll_of_le S _ (by rw [HL.out]; exact h1), cutAll_of_le S _ (by rw [HL.out]; omega)]
        rw [hcut] at t4
        clear hcut hL2
        have hK2 : K ≤ xs.length := by omega
        have hK3 : (n < 0 ∧ K ≤ 0) ∨ (n = K) ∨ ((xs.length : Int) < n ∧ xs.length ≤ K) := by omega
        have t4' : Two w.heap.size w w1.heap.size (S.cutAll K) w2.heap.size (S.cutAll (xs.length - 0)) w4 := by
          rw [cutAll_of_le S (xs.length - 0) (by rw [HL.out]; omega)]
          exact t4
        clear hK t4
        rcases hK3 with ⟨hn, hK0⟩ | rfl | ⟨hn, hK0⟩
        all_goals
          go_wp2_with fail
          go_loopw [63] (fun i wx => ∃ j : Nat, j ≤ xs.length - K ∧ i = .int .i64 j ∧ Two w.heap.size w w1.heap.size (S.cutAll K) w2.heap.size (S.cutAll (xs.length - j)) wx) (fun i _ => xs.length - K - (intOf i).toNat)
          case atStart => exact ⟨0, Nat.zero_le _, rfl, t4'⟩
          case round =>
            obtain ⟨j, hj, rfl, t5⟩ := hrel
            rcases Nat.lt_or_ge j (xs.length - K) with hlt | hge
            · obtain ⟨q, hq⟩ : ∃ q, xs.length - j = q + 1 := ⟨xs.length - j - 1, by omega⟩
              have hq2 : xs.length - (j + 1) = q := by omega
              obtain ⟨hs, hc⟩ := cut_step (S := S) (k := q) (by rw [HL.out]; omega)
              have hs8 : (S.cutAll q).outer.length < 8 := by rw [cutAll_len S q (by rw [HL.out]; omega)]; omega
              rw [hq] at t5
              have t6 := t5.swap.did (Nat.le_refl _) fun F hF => Close_yes _ _ F _ hF _ _ hs hs8
              rw [hc] at t6
              have T6 := Lib.hid t6
              have HQ := Lib.hid hq2
              have HQ1 := Lib.hid hq
              clear t5 t6 hs hc hq hq2
              go_wp2_with (go_at_call 12; refine T6.out.mono ?_; rintro e w6 ⟨rfl, t7⟩)
              all_goals refine ⟨⟨j + 1, by omega, by go_num, ?_⟩, by simp [intOf]; omega⟩
              all_goals rw [HQ.out]
              all_goals exact t7.swap
            · have hjj : xs.length - j = K := by omega
              rw [hjj] at t5
              clear hjj
              have hTl : (S.cutAll K).outer.length = K := cutAll_len S K (by rw [HL.out]; exact hK2)
              obtain ⟨T, hT⟩ : ∃ T, S.cutAll K = T := ⟨_, rfl⟩
              rw [hT] at t5 hTl
              have HTL := Lib.hid hTl
              clear hTl hT t4'
              have cD : ∀ W, Two w.heap.size w w1.heap.size T w2.heap.size T W → Calls Try.prog 14 #[.pointer (some ⟨w1.heap.size, 0, none⟩)] W fun e w' => e = .returned (.int .i64 K) ∧ W = w' := fun W ht => by
                rw [← HTL.out]; exact ht.ask fun F hF => Depth_any W _ F T hF
              have cE : ∀ W, Two w.heap.size w w1.heap.size T w2.heap.size T W → Calls Try.prog 14 #[.pointer (some ⟨w2.heap.size, 0, none⟩)] W fun e w' => e = .returned (.int .i64 K) ∧ W = w' := fun W ht => by
                rw [← HTL.out]; exact ht.swap.ask fun F hF => Depth_any W _ F T hF
              have CD := Lib.hid cD
              have CE := Lib.hid cE
              clear cD cE
              go_wp2_with fail
              refine (t5.ask fun F hF => Save_any wr _ F T hF).mono ?_
              rintro e w5 ⟨rfl, n5, rfl⟩
              have t6 := t5.drewN n5
              go_wp2_with fail
              refine (t6.swap.ask fun F hF => Save_any _ _ F T hF).mono ?_
              rintro e w6 ⟨rfl, n6, rfl⟩
              have t7 := t5.drewN (n5 + n6)
              have hb7 := t7.below
              go_wp2_with fail
              refine (CD.out _ t7).mono ?_
              rintro e w7 ⟨rfl, rfl⟩
              go_wp2_with fail
              refine (CE.out _ t7).mono ?_
              rintro e w7 ⟨rfl, rfl⟩
              go_wp2_with fail
              refine (CD.out _ t7).mono ?_
              rintro e w7 ⟨rfl, rfl⟩
              go_wp2_with fail
              refine (t7.ask fun F hF => Text_any _ _ F T hF).mono ?_
              rintro e w7 ⟨rfl, rfl⟩
              go_wp2_with fail
              refine (t7.swap.ask fun F hF => Text_any _ _ F T hF).mono ?_
              rintro e w7 ⟨rfl, rfl⟩
              have MK := make_zeros
              have CV : (convert 35 9 (.slice (some ⟨wr.heap.size, 0, none⟩) 1001 1001)).run Try.prog ((wr.drewN (n5 + n6)).alloc zeros) = .ok (.string long) ((wr.drewN (n5 + n6)).alloc zeros) := convert_zeros (wr.drewN (n5 + n6))
              go_wp2_with fail
              refine (Open_long _ _ long (by rw [long_size]; omega) (by rw [long_size]; unfold maxLen; omega)).mono ?_
              rintro e w8 ⟨rfl, rfl⟩
              go_wp2_with fail
              go_ret
              exact ⟨rfl, hb7.alloc hb7.size zeros⟩

end Go.Proofs.Ytnkepejdboppcaa
