/- A tree as words: the walk of words. -/
import Derived.Test.YtnhhflnanogpjaaGreatDoorWordP
import Derived.Test.YtnhhflnanogpjaaGreatDoorConcat
import Derived.Test.YtnhhflnanogpjaaGreatDoorTreeKeep
namespace Go.Proofs.YtnhhflnanogpjaaGreatDoor
open Go.RowKit

theorem itoa_any (n : Int) (h0 : -9223372036854775808 ≤ n) (h1 : n ≤ 9223372036854775807) (w : World) (hT : TabsOk w) :
    Calls Tryz.prog 54 #[.int .i64 n] w fun e w' => e = .returned (.string (textI n)) ∧ Touch [] w w' :=
  (Tryz.strconv_Itoa n h0 h1 w hT.pow).mono fun e w' ⟨he, k, os, hw⟩ => ⟨he, by rw [hw]; exact grow_touch w k os⟩

/-- what words tells -/
def Words (l : List NodeV) (D k : Nat) (w : World) : Ending → World → Prop := fun e w' =>
  ∃ v ws, e = .returned v ∧ WordsAt w' w.heap.size v ws ∧ wordsR l D k ws ∧ ws.length ≤ cntF l D k ∧ (∀ s ∈ ws, s.size ≤ 600) ∧ Touch [] w w'

set_option maxRecDepth 100000 in
set_option maxHeartbeats 4000000 in
theorem words_any (l : List NodeV) (nl : Nat) (hok : NodesOk l) (hfine : ∀ i, i < l.length → NodeFine nl i (l.getD i NodeV.none)) (lv : Value) (at_ : Nat) : at_ < l.length → ∀ D, at_ < D → cntF l D at_ ≤ 1000000 → ∀ w, NodesAt w lv l → TabsOk w →
    Calls Tryz.prog 25 #[lv, .int .i64 at_] w (Words l D at_ w) := by
  induction at_ using Nat.strongRecOn with
  | ind k ih =>
  intro hk D hD hcnt w hN hT
  obtain ⟨D', rfl⟩ : ∃ D', D = D' + 1 := ⟨D - 1, by omega⟩
  have hF := hfine k hk
  have hnum := (hok.at_ k).1
  have hNN := Lib.hid hN
  obtain ⟨g, c, rfl, hlc, hcells⟩ := id hN
  obtain ⟨kv, c0, c1, c2, hkv⟩ := hcells k hk
  obtain ⟨nv, hnv⟩ : ∃ nv, l.getD k NodeV.none = nv := ⟨_, rfl⟩
  rw [hnv] at hF hnum c0 c1 hkv
  obtain ⟨kind, num, ks⟩ := nv
  simp only at hnum c0 c1 hkv
  obtain ⟨ka, kc, rfl⟩ : ∃ ka kc, kv = .slice ka ks.length kc := by
    rcases hkv with ⟨a, c, e, rfl⟩ | ⟨g', off, c', e, _⟩
    · exact ⟨a, c, e⟩
    · exact ⟨_, _, e⟩
  obtain ⟨n, hn⟩ : ∃ n, l.length = n := ⟨_, rfl⟩
  obtain ⟨kn, hkn0⟩ : ∃ n, ks.length = n := ⟨_, rfl⟩
  rw [hn] at hk ⊢
  rw [hkn0] at c2 hkv
  have hnum : -9223372036854775808 ≤ num ∧ num ≤ 9223372036854775807 := hnum
  have HG := Lib.hid (And.intro hnv (And.intro hF (And.intro hkv (And.intro ih (And.intro hcnt (And.intro hn hkn0))))))
  clear hnv hF hkv ih hcnt hcells hN hkn0 hn hlc hfine hok

  have hkn : decide ((k : Int) < n) = true := by simp; omega
  go_enter Tryz.func25, Tryz.ntmps25
  go_upto_region 2 with fail
  have bN := Blk.new w 37 #[Value.int IntKind.i64 kind, Value.int IntKind.i64 num, Value.slice ka kn kc]
  have tN := (Touch.refl [] w).alloc (Obj.cells #[Value.int IntKind.i64 kind, Value.int IntKind.i64 num, Value.slice ka kn kc] 37)
  have hT := hT.touch tN
  generalize w.alloc (Obj.cells #[Value.int IntKind.i64 kind, Value.int IntKind.i64 num, Value.slice ka kn kc] 37) = W0 at *
  have HN := Lib.hid (And.intro bN (And.intro tN hT))
  clear bN tN hT c0 c1 c2
  go_cut [6] from 19 (fun s6 wr => MapMade W0 num s6 wr)
  case first =>
    have hE24 := enters_of Tryz.func24 (by kernel_rfl) rfl
    have hE50 := enters_of Tryz.func50 (by kernel_rfl) rfl
    have hE51 := enters_of Tryz.func51 (by kernel_rfl) rfl
    have hmm := @run_makeMap Tryz.prog
    refine region_inv (fun listed a Wx => ∃ f : Nat → Value, a = { tmps := #[Value.slice (some ⟨g, 0, none⟩) n c, Value.int .i64 (k : Int), undef, undef, Value.slice none 0 0, Value.pointer (some ⟨w.heap.size, 0, none⟩), f 6, undef, undef, undef, undef, undef, undef, undef, undef, Value.slice (some ⟨g, 0, none⟩) n c, Value.int .i64 (k : Int), Value.pointer (some ⟨g, k * 3, none⟩), Value.agg #[Value.int .i64 kind, Value.int .i64 num, Value.slice ka kn kc], f 19, f 20, f 21, f 22, f 23, f 24, f 25, f 26, f 27, f 28, f 29, f 30, f 31, f 32, f 33, f 34, f 35, f 36, f 37, f 38, f 39, undef, undef, undef, undef, undef, undef, undef, undef, undef, undef, undef, undef, undef, undef, undef, undef, undef, undef, undef, undef, undef, undef, undef, undef, undef, undef, undef, undef, undef, undef, undef, undef, undef, undef, undef, undef, undef, undef, undef, undef, undef, undef, undef, undef, undef, undef, undef, undef, undef, undef, undef, undef, undef, undef, undef, undef, undef, undef, undef, undef, undef, undef, undef, undef, undef, undef, undef, undef, undef, undef, undef, undef, undef, undef, undef, undef, undef, undef, undef, undef, undef, undef, undef, undef, undef, undef, undef, undef, undef, undef, undef, undef], defers := [] } ∧ WInv W0 w.heap.size num listed f Wx) (by kernel_rfl) (by kernel_rfl) ?h0 ?step ?fin
    case h0 =>
      intro listed hs hl
      exact ⟨fun _ => undef, rfl, WInv.start hl (Touch.refl [] W0).drew⟩
    case step =>
      rintro listed a Wx ⟨f, rfl, hI⟩ hC i o ho hli hdep
      dsimp only
      have hi : i < 29 := (Array.getElem?_eq_some_iff.1 ho).1
      have HI := Lib.hid hI
      have t := hI.t
      clear hI
      rcases (by omega : i = 0 ∨ i = 1 ∨ i = 2 ∨ i = 3 ∨ i = 4 ∨ i = 5 ∨ i = 6 ∨ i = 7 ∨ i = 8 ∨ i = 9 ∨ i = 10 ∨ i = 11 ∨ i = 12 ∨ i = 13 ∨ i = 14 ∨ i = 15 ∨ i = 16 ∨ i = 17 ∨ i = 18 ∨ i = 19 ∨ i = 20 ∨ i = 21 ∨ i = 22 ∨ i = 23 ∨ i = 24 ∨ i = 25 ∨ i = 26 ∨ i = 27 ∨ i = 28) with rfl | rfl | rfl | rfl | rfl | rfl | rfl | rfl | rfl | rfl | rfl | rfl | rfl | rfl | rfl | rfl | rfl | rfl | rfl | rfl | rfl | rfl | rfl | rfl | rfl | rfl | rfl | rfl | rfl
      · cases (show some _ = some o from ho)
        refine wpOp_of ho rfl ?_
        have hn : ∀ p ∈ insW, listed.getD p.1 false = false := by
          intro p hp
          simp only [insW, List.mem_cons, List.not_mem_nil, or_false] at hp
          rcases hp with rfl | rfl | rfl | rfl | rfl | rfl | rfl
          · exact not_listed (fun e => hC 2 _ rfl e { on := 0, ground := .data } (by simp) rfl) hli
          · exact not_listed (fun e => hC 4 _ rfl e { on := 0, ground := .data } (by simp) rfl) hli
          · exact not_listed (fun e => hC 6 _ rfl e { on := 0, ground := .data } (by simp) rfl) hli
          · exact not_listed (fun e => hC 11 _ rfl e { on := 0, ground := .data } (by simp) rfl) hli
          · exact not_listed (fun e => hC 16 _ rfl e { on := 0, ground := .data } (by simp) rfl) hli
          · exact not_listed (fun e => hC 21 _ rfl e { on := 0, ground := .data } (by simp) rfl) hli
          · exact not_listed (fun e => hC 26 _ rfl e { on := 0, ground := .data } (by simp) rfl) hli
        have h27 : listed.getD 27 false = false := not_listed (fun e => hC 27 _ rfl e { on := 0, ground := .data } (by simp) rfl) hli
        have h28 : listed.getD 28 false = false := not_listed (fun e => hC 28 _ rfl e { on := 0, ground := .phase } (by simp) rfl) hli
        refine wp_value (v := .map (some Wx.heap.size)) (w1 := Wx.alloc (.map #[] 0)) ?_ ⟨_, rfl, HI.out.made hn h27 h28⟩
        clear hn h27 h28 hdep hC hli ho
        first | (go_simp; done) | (go_simp; rfl)
      · cases (show some _ = some o from ho)
        refine wpOp_of ho rfl ?_
        refine wp_value (v := .slice (some ⟨Wx.heap.size, 0, none⟩) 1 1) (w1 := Wx.alloc (.cells #[Value.string ⟨#[105]⟩] 9)) ?_ ⟨_, rfl, HI.out.val (i := 1) (d := 20) (by decide) (by decide) rfl (by decide) (by decide) ((Touch.refl [] Wx).alloc _) ⟨Wx.heap.size, [⟨#[105]⟩], rfl, t.size, Blk.new Wx _ _, .inl ⟨rfl, rfl⟩⟩⟩
        clear hdep hC hli ho
        first | (go_simp; done) | (go_simp; rfl)
      · cases (show some _ = some o from ho)
        refine wpOp_of ho rfl ?_
        obtain ⟨mb, l, e19, k1, k2, k3, k4⟩ := HI.out.map (hdep { on := 0, ground := .data } (by simp) rfl)
        have hv : GoodW W0 num 8 (f 20) Wx := HI.out.pv 1 (by decide) (hdep { on := 1, ground := .data } (by simp) rfl)
        obtain ⟨W1, hrun, hm1, t1⟩ := k2.update (P := Tryz.prog) Tryz.underlying88 Tryz.underlying3 8 (f 20)
        exact wp_ins 88 (.tmp 19) (.const (.int .i64 8)) (.tmp 20) rfl (show f 19 = _ from e19) rfl rfl hrun ⟨f, rfl, HI.out.ins (i := 2) (key := 8) (by decide) e19 k1 k2 k3 k4 hv hm1 t1⟩
      · cases (show some _ = some o from ho)
        refine wpOp_of ho rfl ?_
        refine wp_value (v := .slice (some ⟨Wx.heap.size, 0, none⟩) 1 1) (w1 := Wx.alloc (.cells #[Value.string ⟨#[108, 101, 97, 118, 101]⟩] 9)) ?_ ⟨_, rfl, HI.out.val (i := 3) (d := 21) (by decide) (by decide) rfl (by decide) (by decide) ((Touch.refl [] Wx).alloc _) ⟨Wx.heap.size, [⟨#[108, 101, 97, 118, 101]⟩], rfl, t.size, Blk.new Wx _ _, .inr (.inl ⟨rfl, rfl⟩)⟩⟩
        clear hdep hC hli ho
        first | (go_simp; done) | (go_simp; rfl)
      · cases (show some _ = some o from ho)
        refine wpOp_of ho rfl ?_
        obtain ⟨mb, l, e19, k1, k2, k3, k4⟩ := HI.out.map (hdep { on := 0, ground := .data } (by simp) rfl)
        have hv : GoodW W0 num 9 (f 21) Wx := HI.out.pv 3 (by decide) (hdep { on := 3, ground := .data } (by simp) rfl)
        obtain ⟨W1, hrun, hm1, t1⟩ := k2.update (P := Tryz.prog) Tryz.underlying88 Tryz.underlying3 9 (f 21)
        exact wp_ins 88 (.tmp 19) (.const (.int .i64 9)) (.tmp 21) rfl (show f 19 = _ from e19) rfl rfl hrun ⟨f, rfl, HI.out.ins (i := 4) (key := 9) (by decide) e19 k1 k2 k3 k4 hv hm1 t1⟩
      · cases (show some _ = some o from ho)
        refine wpOp_of ho rfl ?_
        refine wp_value (v := .slice (some ⟨Wx.heap.size, 0, none⟩) 1 1) (w1 := Wx.alloc (.cells #[Value.string ⟨#[116, 104, 114, 111, 119]⟩] 9)) ?_ ⟨_, rfl, HI.out.val (i := 5) (d := 22) (by decide) (by decide) rfl (by decide) (by decide) ((Touch.refl [] Wx).alloc _) ⟨Wx.heap.size, [⟨#[116, 104, 114, 111, 119]⟩], rfl, t.size, Blk.new Wx _ _, .inr (.inr (.inl ⟨rfl, rfl⟩))⟩⟩
        clear hdep hC hli ho
        first | (go_simp; done) | (go_simp; rfl)
      · cases (show some _ = some o from ho)
        refine wpOp_of ho rfl ?_
        obtain ⟨mb, l, e19, k1, k2, k3, k4⟩ := HI.out.map (hdep { on := 0, ground := .data } (by simp) rfl)
        have hv : GoodW W0 num 10 (f 22) Wx := HI.out.pv 5 (by decide) (hdep { on := 5, ground := .data } (by simp) rfl)
        obtain ⟨W1, hrun, hm1, t1⟩ := k2.update (P := Tryz.prog) Tryz.underlying88 Tryz.underlying3 10 (f 22)
        exact wp_ins 88 (.tmp 19) (.const (.int .i64 10)) (.tmp 22) rfl (show f 19 = _ from e19) rfl rfl hrun ⟨f, rfl, HI.out.ins (i := 6) (key := 10) (by decide) e19 k1 k2 k3 k4 hv hm1 t1⟩
      · cases (show some _ = some o from ho)
        refine wpOp_of ho rfl ?_
        refine wp_value (v := .pointer (some ⟨w.heap.size, 1, none⟩)) (w1 := Wx) ?_ ⟨_, rfl, HI.out.val (i := 7) (d := 23) (by decide) (by decide) rfl (by decide) (by decide) (Touch.refl [] Wx) rfl⟩
        clear hdep hC hli ho
        first | (go_simp; done) | (go_simp; rfl)
      · cases (show some _ = some o from ho)
        refine wpOp_of ho rfl ?_
        have g7 : f 23 = .pointer (some ⟨w.heap.size, 1, none⟩) := HI.out.pv 7 (by decide) (hdep { on := 7, ground := .data } (by simp) rfl)
        refine wp_value (v := .int .i64 num) (w1 := Wx) ?_ ⟨_, rfl, HI.out.val (i := 8) (d := 24) (by decide) (by decide) rfl (by decide) (by decide) (Touch.refl [] Wx) rfl⟩
        have cn : Wx.cell? ⟨w.heap.size, 1, none⟩ = some (.int .i64 num) := (HN.out.1.touch t (by simp)).cell 1
        clear hdep hC hli ho
        first | (go_simp; done) | (go_simp; rfl)
      · cases (show some _ = some o from ho)
        refine wpOp_of ho rfl ?_
        have g8 : f 24 = .int .i64 num := HI.out.pv 8 (by decide) (hdep { on := 8, ground := .data } (by simp) rfl)
        refine wp_enter (f := 24) (args := #[.int .i64 num]) (w1 := Wx) ?_ ((local_any num hnum.1 hnum.2 Wx (HN.out.2.2.touch t)).mono ?_)
        · clear hdep hC hli ho
          first | (go_simp; done) | (go_simp; rfl)
        · rintro _ W1 ⟨rfl, t1⟩
          exact ⟨_, rfl, _, rfl, HI.out.val (i := 9) (d := 25) (by decide) (by decide) rfl (by decide) (by decide) t1 rfl⟩
      · cases (show some _ = some o from ho)
        refine wpOp_of ho rfl ?_
        have g9 : f 25 = .string (localT num) := HI.out.pv 9 (by decide) (hdep { on := 9, ground := .data } (by simp) rfl)
        refine wp_value (v := .slice (some ⟨Wx.heap.size, 0, none⟩) 1 1) (w1 := Wx.alloc (.cells #[Value.string (localT num)] 9)) ?_ ⟨_, rfl, HI.out.val (i := 10) (d := 26) (by decide) (by decide) rfl (by decide) (by decide) ((Touch.refl [] Wx).alloc _) ⟨Wx.heap.size, [localT num], rfl, t.size, Blk.new Wx _ _, .inr (.inr (.inr (.inl ⟨rfl, rfl⟩)))⟩⟩
        clear hdep hC hli ho
        first | (go_simp; done) | (go_simp; rfl)
      · cases (show some _ = some o from ho)
        refine wpOp_of ho rfl ?_
        obtain ⟨mb, l, e19, k1, k2, k3, k4⟩ := HI.out.map (hdep { on := 0, ground := .data } (by simp) rfl)
        have hv : GoodW W0 num 12 (f 26) Wx := HI.out.pv 10 (by decide) (hdep { on := 10, ground := .data } (by simp) rfl)
        obtain ⟨W1, hrun, hm1, t1⟩ := k2.update (P := Tryz.prog) Tryz.underlying88 Tryz.underlying3 12 (f 26)
        exact wp_ins 88 (.tmp 19) (.const (.int .i64 12)) (.tmp 26) rfl (show f 19 = _ from e19) rfl rfl hrun ⟨f, rfl, HI.out.ins (i := 11) (key := 12) (by decide) e19 k1 k2 k3 k4 hv hm1 t1⟩
      · cases (show some _ = some o from ho)
        refine wpOp_of ho rfl ?_
        refine wp_value (v := .pointer (some ⟨w.heap.size, 1, none⟩)) (w1 := Wx) ?_ ⟨_, rfl, HI.out.val (i := 12) (d := 27) (by decide) (by decide) rfl (by decide) (by decide) (Touch.refl [] Wx) rfl⟩
        clear hdep hC hli ho
        first | (go_simp; done) | (go_simp; rfl)
      · cases (show some _ = some o from ho)
        refine wpOp_of ho rfl ?_
        have g12 : f 27 = .pointer (some ⟨w.heap.size, 1, none⟩) := HI.out.pv 12 (by decide) (hdep { on := 12, ground := .data } (by simp) rfl)
        refine wp_value (v := .int .i64 num) (w1 := Wx) ?_ ⟨_, rfl, HI.out.val (i := 13) (d := 28) (by decide) (by decide) rfl (by decide) (by decide) (Touch.refl [] Wx) rfl⟩
        have cn : Wx.cell? ⟨w.heap.size, 1, none⟩ = some (.int .i64 num) := (HN.out.1.touch t (by simp)).cell 1
        clear hdep hC hli ho
        first | (go_simp; done) | (go_simp; rfl)
      · cases (show some _ = some o from ho)
        refine wpOp_of ho rfl ?_
        have g13 : f 28 = .int .i64 num := HI.out.pv 13 (by decide) (hdep { on := 13, ground := .data } (by simp) rfl)
        refine wp_enter (f := 24) (args := #[.int .i64 num]) (w1 := Wx) ?_ ((local_any num hnum.1 hnum.2 Wx (HN.out.2.2.touch t)).mono ?_)
        · clear hdep hC hli ho
          first | (go_simp; done) | (go_simp; rfl)
        · rintro _ W1 ⟨rfl, t1⟩
          exact ⟨_, rfl, _, rfl, HI.out.val (i := 14) (d := 29) (by decide) (by decide) rfl (by decide) (by decide) t1 rfl⟩
      · cases (show some _ = some o from ho)
        refine wpOp_of ho rfl ?_
        have g14 : f 29 = .string (localT num) := HI.out.pv 14 (by decide) (hdep { on := 14, ground := .data } (by simp) rfl)
        refine wp_value (v := .slice (some ⟨Wx.heap.size, 0, none⟩) 2 2) (w1 := Wx.alloc (.cells #[Value.string ⟨#[116, 111]⟩, Value.string (localT num)] 9)) ?_ ⟨_, rfl, HI.out.val (i := 15) (d := 30) (by decide) (by decide) rfl (by decide) (by decide) ((Touch.refl [] Wx).alloc _) ⟨Wx.heap.size, [⟨#[116, 111]⟩, localT num], rfl, t.size, Blk.new Wx _ _, .inr (.inr (.inr (.inr (.inl ⟨rfl, rfl⟩))))⟩⟩
        clear hdep hC hli ho
        first | (go_simp; done) | (go_simp; rfl)
      · cases (show some _ = some o from ho)
        refine wpOp_of ho rfl ?_
        obtain ⟨mb, l, e19, k1, k2, k3, k4⟩ := HI.out.map (hdep { on := 0, ground := .data } (by simp) rfl)
        have hv : GoodW W0 num 13 (f 30) Wx := HI.out.pv 15 (by decide) (hdep { on := 15, ground := .data } (by simp) rfl)
        obtain ⟨W1, hrun, hm1, t1⟩ := k2.update (P := Tryz.prog) Tryz.underlying88 Tryz.underlying3 13 (f 30)
        exact wp_ins 88 (.tmp 19) (.const (.int .i64 13)) (.tmp 30) rfl (show f 19 = _ from e19) rfl rfl hrun ⟨f, rfl, HI.out.ins (i := 16) (key := 13) (by decide) e19 k1 k2 k3 k4 hv hm1 t1⟩
      · cases (show some _ = some o from ho)
        refine wpOp_of ho rfl ?_
        refine wp_value (v := .pointer (some ⟨w.heap.size, 1, none⟩)) (w1 := Wx) ?_ ⟨_, rfl, HI.out.val (i := 17) (d := 31) (by decide) (by decide) rfl (by decide) (by decide) (Touch.refl [] Wx) rfl⟩
        clear hdep hC hli ho
        first | (go_simp; done) | (go_simp; rfl)
      · cases (show some _ = some o from ho)
        refine wpOp_of ho rfl ?_
        have g17 : f 31 = .pointer (some ⟨w.heap.size, 1, none⟩) := HI.out.pv 17 (by decide) (hdep { on := 17, ground := .data } (by simp) rfl)
        refine wp_value (v := .int .i64 num) (w1 := Wx) ?_ ⟨_, rfl, HI.out.val (i := 18) (d := 32) (by decide) (by decide) rfl (by decide) (by decide) (Touch.refl [] Wx) rfl⟩
        have cn : Wx.cell? ⟨w.heap.size, 1, none⟩ = some (.int .i64 num) := (HN.out.1.touch t (by simp)).cell 1
        clear hdep hC hli ho
        first | (go_simp; done) | (go_simp; rfl)
      · cases (show some _ = some o from ho)
        refine wpOp_of ho rfl ?_
        have g18 : f 32 = .int .i64 num := HI.out.pv 18 (by decide) (hdep { on := 18, ground := .data } (by simp) rfl)
        refine wp_enter (f := 50) (args := #[.int .i64 num, .int .i64 10]) (w1 := Wx) ?_ ((fmt_any num hnum.1 hnum.2 Wx (HN.out.2.2.touch t)).mono ?_)
        · clear hdep hC hli ho
          first | (go_simp; done) | (go_simp; rfl)
        · rintro _ W1 ⟨rfl, t1⟩
          exact ⟨_, rfl, _, rfl, HI.out.val (i := 19) (d := 33) (by decide) (by decide) rfl (by decide) (by decide) t1 rfl⟩
      · cases (show some _ = some o from ho)
        refine wpOp_of ho rfl ?_
        have g19 : f 33 = .string (textI num) := HI.out.pv 19 (by decide) (hdep { on := 19, ground := .data } (by simp) rfl)
        refine wp_value (v := .slice (some ⟨Wx.heap.size, 0, none⟩) 1 1) (w1 := Wx.alloc (.cells #[Value.string (textI num)] 9)) ?_ ⟨_, rfl, HI.out.val (i := 20) (d := 34) (by decide) (by decide) rfl (by decide) (by decide) ((Touch.refl [] Wx).alloc _) ⟨Wx.heap.size, [textI num], rfl, t.size, Blk.new Wx _ _, .inr (.inr (.inr (.inr (.inr (.inl ⟨rfl, rfl⟩)))))⟩⟩
        clear hdep hC hli ho
        first | (go_simp; done) | (go_simp; rfl)
      · cases (show some _ = some o from ho)
        refine wpOp_of ho rfl ?_
        obtain ⟨mb, l, e19, k1, k2, k3, k4⟩ := HI.out.map (hdep { on := 0, ground := .data } (by simp) rfl)
        have hv : GoodW W0 num 1 (f 34) Wx := HI.out.pv 20 (by decide) (hdep { on := 20, ground := .data } (by simp) rfl)
        obtain ⟨W1, hrun, hm1, t1⟩ := k2.update (P := Tryz.prog) Tryz.underlying88 Tryz.underlying3 1 (f 34)
        exact wp_ins 88 (.tmp 19) (.const (.int .i64 1)) (.tmp 34) rfl (show f 19 = _ from e19) rfl rfl hrun ⟨f, rfl, HI.out.ins (i := 21) (key := 1) (by decide) e19 k1 k2 k3 k4 hv hm1 t1⟩
      · cases (show some _ = some o from ho)
        refine wpOp_of ho rfl ?_
        refine wp_value (v := .pointer (some ⟨w.heap.size, 1, none⟩)) (w1 := Wx) ?_ ⟨_, rfl, HI.out.val (i := 22) (d := 35) (by decide) (by decide) rfl (by decide) (by decide) (Touch.refl [] Wx) rfl⟩
        clear hdep hC hli ho
        first | (go_simp; done) | (go_simp; rfl)
      · cases (show some _ = some o from ho)
        refine wpOp_of ho rfl ?_
        have g22 : f 35 = .pointer (some ⟨w.heap.size, 1, none⟩) := HI.out.pv 22 (by decide) (hdep { on := 22, ground := .data } (by simp) rfl)
        refine wp_value (v := .int .i64 num) (w1 := Wx) ?_ ⟨_, rfl, HI.out.val (i := 23) (d := 36) (by decide) (by decide) rfl (by decide) (by decide) (Touch.refl [] Wx) rfl⟩
        have cn : Wx.cell? ⟨w.heap.size, 1, none⟩ = some (.int .i64 num) := (HN.out.1.touch t (by simp)).cell 1
        clear hdep hC hli ho
        first | (go_simp; done) | (go_simp; rfl)
      · cases (show some _ = some o from ho)
        refine wpOp_of ho rfl ?_
        have g23 : f 36 = .int .i64 num := HI.out.pv 23 (by decide) (hdep { on := 23, ground := .data } (by simp) rfl)
        refine wp_enter (f := 51) (args := #[.int .i64 1, .int .i64 num]) (w1 := Wx) ?_ ((Name_any num hnum.1 hnum.2 Wx (HN.out.2.2.touch t)).mono ?_)
        · clear hdep hC hli ho
          first | (go_simp; done) | (go_simp; rfl)
        · rintro _ W1 ⟨s, rfl, hs, t1⟩
          exact ⟨_, rfl, _, rfl, HI.out.val (i := 24) (d := 37) (by decide) (by decide) rfl (by decide) (by decide) t1 ⟨s, hs, rfl⟩⟩
      · cases (show some _ = some o from ho)
        refine wpOp_of ho rfl ?_
        obtain ⟨s24, hs24, g24⟩ : ∃ s : ByteArray, s.size ≤ 600 ∧ f 37 = .string s := HI.out.pv 24 (by decide) (hdep { on := 24, ground := .data } (by simp) rfl)
        refine wp_value (v := .slice (some ⟨Wx.heap.size, 0, none⟩) 1 1) (w1 := Wx.alloc (.cells #[Value.string s24] 9)) ?_ ⟨_, rfl, HI.out.val (i := 25) (d := 38) (by decide) (by decide) rfl (by decide) (by decide) ((Touch.refl [] Wx).alloc _) ⟨Wx.heap.size, [s24], rfl, t.size, Blk.new Wx _ _, .inr (.inr (.inr (.inr (.inr (.inr ⟨rfl, s24, hs24, rfl⟩)))))⟩⟩
        clear hdep hC hli ho
        first | (go_simp; done) | (go_simp; rfl)
      · cases (show some _ = some o from ho)
        refine wpOp_of ho rfl ?_
        obtain ⟨mb, l, e19, k1, k2, k3, k4⟩ := HI.out.map (hdep { on := 0, ground := .data } (by simp) rfl)
        have hv : GoodW W0 num 2 (f 38) Wx := HI.out.pv 25 (by decide) (hdep { on := 25, ground := .data } (by simp) rfl)
        obtain ⟨W1, hrun, hm1, t1⟩ := k2.update (P := Tryz.prog) Tryz.underlying88 Tryz.underlying3 2 (f 38)
        exact wp_ins 88 (.tmp 19) (.const (.int .i64 2)) (.tmp 38) rfl (show f 19 = _ from e19) rfl rfl hrun ⟨f, rfl, HI.out.ins (i := 26) (key := 2) (by decide) e19 k1 k2 k3 k4 hv hm1 t1⟩
      · cases (show some _ = some o from ho)
        refine wpOp_of ho rfl ?_
        refine wp_value (v := f 19) (w1 := Wx) ?_ ⟨_, rfl, HI.out.move⟩
        clear hdep hC hli ho
        first | (go_simp; done) | (go_simp; rfl)
      · cases (show some _ = some o from ho)
        refine wpOp_of ho rfl ?_
        refine wp_value (v := f 39) (w1 := Wx) ?_ ⟨_, rfl, HI.out.assign (hdep { on := 27, ground := .data } (by simp) rfl)⟩
        clear hdep hC hli ho
        first | (go_simp; done) | (go_simp; rfl)
    case fin =>
      rintro listed a Wx hl ⟨f, rfl, hI⟩
      obtain ⟨mb, l, e19, k1, k2, k3, k4⟩ := hI.map (hl 0 (by decide))
      have e6 := (hI.m28 (hl 28 (by decide))).trans e19
      have hz : ∀ p ∈ insW, p.1 < 29 := by decide
      have hfin : MapMade W0 num (f 6) Wx := ⟨mb, l, e6, k1, k2, k3, fun p hp => k4 p hp (hl p.1 (hz p hp)), hI.t⟩
      rename_i J1 K1 hJ1 hK1
      refine hK1 _ _ (Met.intro (hJ1 _ _ ?_))
      (repeat apply Exists.intro)
      exact ⟨hfin, rfl⟩
  case rest =>
    obtain ⟨mb, lst, rfl, hmb, hIM, hGood, hHas, t0⟩ := hcut
    obtain ⟨hnv, hF, hkv, ih, hcnt, hn, hkn0⟩ := HG.out
    have bN := HN.out.1.touch t0 (by simp)
    have n0 := bN.cell 0
    have tW := HN.out.2.1.trans t0 (by simp)
    by_cases hown : ownKind kind
    · obtain ⟨v, hv⟩ : ∃ v, atKey lst kind = some v := by
        have hall : ∀ key, ownKind key → ∃ p ∈ insW, p.2 = key := by
          intro key hk
          rcases hk with rfl | rfl | rfl | rfl | rfl | rfl | rfl <;> simp [insW]
        obtain ⟨p, hp, e⟩ := hall kind hown
        have := hHas p hp
        rw [e] at this
        exact Option.isSome_iff_exists.1 this
      obtain ⟨gg, ws, rfl, h1, h2, h3⟩ := hGood kind v hv
      have hlk := (hIM.lookup (P := Tryz.prog) Tryz.underlying88 Tryz.underlying3 hv).2
      have hwl : ws.length ≤ 2 := by
        rcases h3 with ⟨_, rfl⟩ | ⟨_, rfl⟩ | ⟨_, rfl⟩ | ⟨_, rfl⟩ | ⟨_, rfl⟩ | ⟨_, rfl⟩ | ⟨_, s, _, rfl⟩ <;> simp
      have hws : ∀ s ∈ ws, s.size ≤ 600 := by
        have e1 := localT_size num hnum.1 hnum.2
        have e2 := textI_size num hnum.1 hnum.2
        intro s hs
        rcases h3 with ⟨_, rfl⟩ | ⟨_, rfl⟩ | ⟨_, rfl⟩ | ⟨_, rfl⟩ | ⟨_, rfl⟩ | ⟨_, rfl⟩ | ⟨_, s', hs', rfl⟩
        all_goals simp only [List.mem_cons, List.not_mem_nil, or_false] at hs
        · subst hs; decide
        · subst hs; decide
        · subst hs; decide
        · subst hs; omega
        · rcases hs with rfl | rfl
          · decide
          · omega
        · subst hs; omega
        · subst hs; exact hs'
      have hfin : Words l (D' + 1) k w (.returned (.slice (some ⟨gg, 0, none⟩) ws.length ws.length)) wc := by
        refine ⟨_, ws, rfl, words_row h2 (by have := HN.out.2.1.size; omega) (by unfold maxLen; omega), ?_, ?_, hws, tW⟩
        · unfold wordsR
          rw [hnv, if_pos hown]
          exact h3
        · unfold cntF
          omega
      have HFn := Lib.hid hfin
      clear hfin hws hwl h3 h2 h1 hv hGood hHas hIM hnv hF hkv ih hcnt bN tW t0
      go_wp2
      go_ret
      exact HFn.out
    · have hno : atKey lst kind = none := by
        cases e : atKey lst kind with
        | none => rfl
        | some v =>
          obtain ⟨gg, ws, _, _, _, h3⟩ := hGood kind v e
          exact absurd (by unfold ownKind; rcases h3 with h | h | h | h | h | h | h <;> simp [h.1]) hown
      have hlk := (hIM.lookup_none (P := Tryz.prog) Tryz.underlying88 Tryz.underlying3 hno (z := .slice none 0 0) zero_strs).2
      have hA := Around.new wc
      have hmm := @run_makeMap Tryz.prog
      have HW := Lib.hid (And.intro hnv (And.intro hF (And.intro hkv (And.intro ih (And.intro hcnt (And.intro bN tW))))))
      clear hnv hF hkv ih hcnt bN tW hIM hGood hHas hno t0
      go_upto_region 6 with fail
      clear hlk
      go_upto_region 7 with (refine wpList_iins _ rfl _ _ _ 88 rfl _ _ Tryz.underlying88 Tryz.underlying3 wc.heap.size _ rfl (hA.map.alloc _) _ rfl _ rfl ?_; intro wn hn tn; have hA := Around.put hA hn tn (by simp) rfl rfl; clear hn tn)
      obtain ⟨hnv, hF, hkv, ih, hcnt, bN, tW⟩ := HW.out
      have hkind : kind = 3 ∨ kind = 4 ∨ kind = 5 ∨ kind = 6 ∨ kind = 7 ∨ kind = 11 := by
        have h1 := hF.lo
        have h2 := hF.hi
        simp only at h1 h2
        have h3 : ¬ (kind = 8 ∨ kind = 9 ∨ kind = 10 ∨ kind = 12 ∨ kind = 13 ∨ kind = 1 ∨ kind = 2) := hown
        omega
      obtain ⟨L, hA, hsome⟩ : ∃ L, Around wc wn wc.heap.size L ∧ (atKey L kind).isSome = true := ⟨_, hA, by rcases hkind with rfl | rfl | rfl | rfl | rfl | rfl <;> simp [atKey_put]⟩
      obtain ⟨v, hv⟩ := Option.isSome_iff_exists.1 hsome
      obtain ⟨gA, rfl, hgA, hBA⟩ := hA.good kind v hv
      have hlk := (hA.map.lookup (P := Tryz.prog) Tryz.underlying88 Tryz.underlying3 hv).1
      have tN2 := tW.trans hA.t (by simp)
      have bN2 := bN.touch hA.t (by simp)
      have n0 := bN2.cell 0
      have hol : (outA kind).length ≤ 3 := by rcases hkind with rfl | rfl | rfl | rfl | rfl | rfl <;> decide
      have hCl := clone_words gA (outA kind) wn hBA (by omega)
      have HW2 := Lib.hid (And.intro tN2 (And.intro bN2 hkind))
      clear hnv hF hkv ih hcnt bN tW hA hv hsome hBA hgA tN2 bN2 hmm
      go_wp2_with fail
      refine hCl.mono ?_
      rintro _ w5 ⟨ov, rfl, hO, t5⟩
      obtain ⟨oa, oc, rfl⟩ := own_slice' hO
      clear hlk hCl n0
      have t6 := HW2.out.1.trans t5 (by simp)
      have b6 := HW2.out.2.1.touch t5 (by simp)
      have n0 := b6.cell 0
      have n2 := b6.cell 2
      obtain ⟨hnv, hF, hkv, ih, hcnt, bN, tW⟩ := HW.out
      have hsmall : kn ≤ 1000 := by have := hF.small; simp only at this; omega
      have hkids := hF.kids
      simp only at hkids
      have hcnt2 : ((ks.map fun i => 3 + cntF l D' i.toNat)).sum + 3 ≤ 1000000 := by
        unfold cntF at hcnt
        rw [hnv] at hcnt
        simp only at hcnt
        omega
      have hO2 := hO.low (b2 := w.heap.size) (by have := HW2.out.1.size; omega)
      have hS0 : StW w w5 (allF (outA kind) (fun _ => []) 0) (outA kind) (.slice none 0 0) (.slice oa (outA kind).length oc) #[Value.int IntKind.i64 kind, Value.int IntKind.i64 num, Value.slice ka kn kc] := ⟨World.ownsRow_nil _ _ _ _, hO2, by simp [rowOf], b6, t6⟩
      have HC := Lib.hid (And.intro hkids (And.intro ih (And.intro hkv (And.intro hnv (And.intro hn hcnt2)))))
      clear hkids ih hkv hnv hn hcnt2 hF hcnt bN tW hO hO2 t6 b6
      rcases Decidable.em (kind = 11) with hK11 | hK11
      case inl =>
        subst hK11
        go_wp2_with fail
        go_loopw [65, 11] (fun i av wr => ∃ (j : Nat) (A : List ByteArray), j ≤ kn ∧ i = .int .i64 (j : Int) ∧ StW w wr A (outA 11) av (.slice oa (outA 11).length oc) #[Value.int IntKind.i64 11, Value.int IntKind.i64 num, Value.slice ka kn kc] ∧
            A.length ≤ ((ks.map fun i => 3 + cntF l D' i.toNat).take j).sum ∧ ∀ s ∈ A, s.size ≤ 600) (fun i _ _ => kn - (intOf i).toNat)
        case atStart => exact ⟨0, [], Nat.zero_le _, rfl, hS0, by simp, by simp⟩
        case round =>
          obtain ⟨j, A, hj, rfl, hS, hlen, hsz⟩ := hrel
          clear hS0 n0 n2
          have n0 := hS.nb.cell 0
          have n2 := hS.nb.cell 2
          obtain ⟨hkids, ih, hkv, hnv, hn, hcnt2⟩ := HC.out
          have hlk := HG.out.2.2.2.2.2.2
          by_cases hlt : j < kn
          · have hlt' : decide ((j : Int) < kn) = true := by simp; omega
            have hkr := hkv.quiet hS.t
            obtain ⟨g', off, rfl, hkc⟩ : ∃ g' off, ka = some ⟨g', off, none⟩ ∧ ∀ i, i < kn → wr.cell? ⟨g', off + i, none⟩ = some (.int .i64 (ks.getD i 0)) := by
              rcases hkr with ⟨_, _, e, e'⟩ | ⟨g', off, c', e, hk⟩
              · rw [e'] at hlk; simp at hlk; omega
              · cases e
                exact ⟨g', off, rfl, fun i hi => hk i (by omega)⟩
            have hcj := hkc j hlt
            have hkj := hkids (ks.getD j 0) (by rw [List.getD, List.getElem?_eq_getElem (by omega)]; exact List.getElem_mem _)
            obtain ⟨q, hq⟩ : ∃ q : Nat, ks.getD j 0 = q := ⟨(ks.getD j 0).toNat, by omega⟩
            have hsum := sum_take_succ (ks.map fun i => 3 + cntF l D' i.toNat) j (by simp; omega)
            have hgd : (ks.map fun i => 3 + cntF l D' i.toNat).getD j 0 = 3 + cntF l D' q := by
              rw [List.getD, List.getElem?_map, List.getElem?_eq_getElem (by omega)]
              have : ks[j]'(by omega) = (q : Int) := by rw [← hq, List.getD, List.getElem?_eq_getElem (by omega)]; rfl
              simp [this]
            rw [hgd] at hsum
            have hle1 := sum_take_le (ks.map fun i => 3 + cntF l D' i.toNat) (j + 1)
            rw [hq] at hcj hkj
            have hcall := ih q (by omega) (by omega) D' (by omega) (by omega) wr (hNN.out.quiet hS.t) (hT.touch hS.t)
            rw [hn] at hcall
            have ek : IntKind.i64.wrap ((j : Int) + 1) = (j + 1 : Nat) := by rw [IntKind.wrap_i64]; omega
            have ekn : IntKind.i64.wrap ((kn : Int) - 1) = (kn : Int) - 1 := by rw [IntKind.wrap_i64]; omega
            have hroom : ∀ x, x ≤ cntF l D' q → A.length + 3 + x ≤ 1000000 := fun x hx => by omega
            have hqD : cntF l D' q + 6 ≤ 1000000 := by omega
            have HR := Lib.hid (And.intro hS (And.intro hlen (And.intro hsz (And.intro hsum hroom))))
            clear hkr hkc hkids ih hkv hnv hsz hgd hq hsum hroom hlen hle1 hcnt2 hlk hn hol hkj hS
            rcases Decidable.em (j < (outA 11).length) with hji | hji
            case' inl => have hji' : decide ((j : Int) < (outA 11).length) = true := decide_eq_true (by omega)
            case' inr => have hji' : decide ((j : Int) < (outA 11).length) = false := decide_eq_false (by omega)
            all_goals
              go_wp2_with fail
              refine hcall.mono ?_
              rintro _ w3 ⟨v2, ws2, rfl, hw2, hr2, hl2, hz2, t3⟩
              obtain ⟨a2, c2, rfl⟩ := own_slice' hw2
              have hS3 := HR.out.1.quiet t3
              have n0 := hS3.nb.cell 0
              have n2 := hS3.nb.cell 2
              have hIt := itoa_any (j : Int) (by omega) (by omega) w3 (hT.touch hS3.t)
              have HX := Lib.hid (And.intro hS3 (And.intro hw2 (And.intro hl2 hz2)))
              clear hcall hS3 hw2 hr2 hl2 hz2 t3
              by_cases hjl : (j : Int) < (kn : Int) - 1
              · go_wp2_with fail
                refine hIt.mono ?_
                rintro _ w4 ⟨rfl, t4⟩
                have b1 : Blk (((w4.alloc (Obj.cells #[Value.string (textI (j : Int)), Value.string bOf] 9)).alloc (Obj.cells #[Value.string bEndof] 9)).alloc (Obj.cells #[Value.slice (some ⟨w4.heap.size, 0, none⟩) 2 2, Value.slice a2 ws2.length c2, Value.slice (some ⟨w4.heap.size + 1, 0, none⟩) 1 1] 67)) w4.heap.size 9 #[.string (textI (j : Int)), .string bOf] := ((Blk.new w4 _ _).alloc _).alloc _
                have b2 : Blk (((w4.alloc (Obj.cells #[Value.string (textI (j : Int)), Value.string bOf] 9)).alloc (Obj.cells #[Value.string bEndof] 9)).alloc (Obj.cells #[Value.slice (some ⟨w4.heap.size, 0, none⟩) 2 2, Value.slice a2 ws2.length c2, Value.slice (some ⟨w4.heap.size + 1, 0, none⟩) 1 1] 67)) (w4.heap.size + 1) 9 #[.string bEndof] := (Blk.new_at _ (by simp) _ _).alloc _
                have b3 : Blk (((w4.alloc (Obj.cells #[Value.string (textI (j : Int)), Value.string bOf] 9)).alloc (Obj.cells #[Value.string bEndof] 9)).alloc (Obj.cells #[Value.slice (some ⟨w4.heap.size, 0, none⟩) 2 2, Value.slice a2 ws2.length c2, Value.slice (some ⟨w4.heap.size + 1, 0, none⟩) 1 1] 67)) (w4.heap.size + 1 + 1) 67 #[.slice (some ⟨w4.heap.size, 0, none⟩) 2 2, .slice a2 ws2.length c2, .slice (some ⟨w4.heap.size + 1, 0, none⟩) 1 1] := Blk.new_at _ (by simp) _ _
                have tB : Touch [] w4 (((w4.alloc (Obj.cells #[Value.string (textI (j : Int)), Value.string bOf] 9)).alloc (Obj.cells #[Value.string bEndof] 9)).alloc (Obj.cells #[Value.slice (some ⟨w4.heap.size, 0, none⟩) 2 2, Value.slice a2 ws2.length c2, Value.slice (some ⟨w4.heap.size + 1, 0, none⟩) 1 1] 67)) := (((Touch.refl [] w4).alloc _).alloc _).alloc _
                have hw4 := HX.out.2.1.quiet (t4.trans tB (by simp))
                have hCon := Concat_go (w4.heap.size + 1 + 1) 3 (fun i => if i = 0 then .slice (some ⟨w4.heap.size, 0, none⟩) 2 2 else if i = 1 then .slice a2 ws2.length c2 else .slice (some ⟨w4.heap.size + 1, 0, none⟩) 1 1) (fun i => if i = 0 then [textI (j : Int), bOf] else if i = 1 then ws2 else [bEndof]) (((w4.alloc (Obj.cells #[Value.string (textI (j : Int)), Value.string bOf] 9)).alloc (Obj.cells #[Value.string bEndof] 9)).alloc (Obj.cells #[Value.slice (some ⟨w4.heap.size, 0, none⟩) 2 2, Value.slice a2 ws2.length c2, Value.slice (some ⟨w4.heap.size + 1, 0, none⟩) 1 1] 67)) (by decide) (fun i hi => by
                  rcases (by omega : i = 0 ∨ i = 1 ∨ i = 2) with rfl | rfl | rfl
                  · exact ⟨b3.cell 0, words_row (ws := [textI (j : Int), bOf]) b1 (Nat.zero_le _) (by unfold maxLen; simp)⟩
                  · exact ⟨b3.cell 1, hw4.low (Nat.zero_le _)⟩
                  · exact ⟨b3.cell 2, words_row (ws := [bEndof]) b2 (Nat.zero_le _) (by unfold maxLen; simp)⟩) (by simp [catF]) (by have := HX.out.2.2.1; simp [catF]; omega)
                have eC : catF (fun i => if i = 0 then [textI (j : Int), bOf] else if i = 1 then ws2 else [bEndof]) 3 = [textI (j : Int), bOf] ++ ws2 ++ [bEndof] := rfl
                rw [eC] at hCon
                have T7 := Lib.hid (t4.trans tB (by simp))
                clear eC b1 b2 b3 tB hw4 hIt t4
                go_wp2_with fail
                refine hCon.mono ?_
                rintro _ w7 ⟨v7, rfl, hw7, t7⟩
                obtain ⟨a7, c7, rfl⟩ := own_slice' hw7
                have hS7 := HX.out.1.quiet (T7.out.trans t7 (by simp))
                have hP : ([textI (j : Int), bOf] ++ ws2 ++ [bEndof]).length ≤ 3 + cntF l D' q ∧ ∀ s ∈ [textI (j : Int), bOf] ++ ws2 ++ [bEndof], s.size ≤ 600 := by
                  refine ⟨by have := HX.out.2.2.1; simp only [List.length_append, List.length_cons, List.length_nil]; omega, fun s hs => ?_⟩
                  simp only [List.mem_append, List.mem_cons, List.not_mem_nil, or_false] at hs
                  rcases hs with ((rfl | rfl) | hs) | rfl
                  · have := textI_size (j : Int) (by omega) (by omega); omega
                  · decide
                  · exact HX.out.2.2.2 s hs
                  · decide
                generalize [textI (j : Int), bOf] ++ ws2 ++ [bEndof] = wsX at *
                have n0 := hS7.nb.cell 0
                have hS7r := hS7.row
                have hwb := hS7.t.size
                have hb2 : A.length + wsX.length ≤ 10000000 := by have h1 := HR.out.2.2.2.2 0 (Nat.zero_le _); have := hP.1; omega
                have HY := Lib.hid (And.intro hS7 hP)
                clear hS7 hP
                go_wp2_with (at_builtin; refine wpList_words rfl _ _ rfl _ _ _ _ w.heap.size _ rfl hS7r rfl hw7 hb2 hwb ?_)
                intro v8 w8 k1 k2 k3 k4
                have hS8 := HY.out.1.app k1 k2 (by simpa using k3)
                have hA8 : (A ++ wsX).length ≤ ((ks.map fun i => 3 + cntF l D' i.toNat).take (j + 1)).sum := by
                  have h1 := HY.out.2.1
                  have h2 := HR.out.2.1
                  rw [HR.out.2.2.2.1, List.length_append]
                  omega
                have hZ8 : ∀ s ∈ A ++ wsX, s.size ≤ 600 := fun s hs => by
                  rcases List.mem_append.1 hs with h | h
                  · exact HR.out.2.2.1 s h
                  · exact HY.out.2.2 s h
                have H8 := Lib.hid (And.intro hS8 (And.intro hA8 hZ8))
                clear hS8 hA8 hZ8 k1 k2 k3 k4 hS7r hw7 hb2 hwb n0 n2
                go_wp2
                go_roundw
                case rel => exact ⟨j + 1, A ++ wsX, by omega, vint (by omega), H8.out.1, H8.out.2.1, H8.out.2.2⟩
                case measure => simp only [intOf]; omega
              · clear hIt
                have hS7 := HX.out.1
                have hw7 := HX.out.2.1.low (Nat.zero_le _)
                have hP : ws2.length ≤ 3 + cntF l D' q ∧ ∀ s ∈ ws2, s.size ≤ 600 := ⟨by have := HX.out.2.2.1; omega, HX.out.2.2.2⟩
                have n0 := hS7.nb.cell 0
                have n2 := hS7.nb.cell 2
                have hS7r := hS7.row
                have hwb := hS7.t.size
                have hb2 : A.length + ws2.length ≤ 10000000 := by have h1 := HR.out.2.2.2.2 0 (Nat.zero_le _); have := hP.1; omega
                have HY := Lib.hid (And.intro hS7 hP)
                clear hS7 hP
                go_wp2_with (at_builtin; refine wpList_words rfl _ _ rfl _ _ _ _ w.heap.size _ rfl hS7r rfl hw7 hb2 hwb ?_)
                intro v8 w8 k1 k2 k3 k4
                have hS8 := HY.out.1.app k1 k2 (by simpa using k3)
                have hA8 : (A ++ ws2).length ≤ ((ks.map fun i => 3 + cntF l D' i.toNat).take (j + 1)).sum := by
                  have h1 := HY.out.2.1
                  have h2 := HR.out.2.1
                  rw [HR.out.2.2.2.1, List.length_append]
                  omega
                have hZ8 : ∀ s ∈ A ++ ws2, s.size ≤ 600 := fun s hs => by
                  rcases List.mem_append.1 hs with h | h
                  · exact HR.out.2.2.1 s h
                  · exact HY.out.2.2 s h
                have H8 := Lib.hid (And.intro hS8 (And.intro hA8 hZ8))
                clear hS8 hA8 hZ8 k1 k2 k3 k4 hS7r hw7 hb2 hwb n0 n2
                go_wp2
                go_roundw
                case rel => exact ⟨j + 1, A ++ ws2, by omega, vint (by omega), H8.out.1, H8.out.2.1, H8.out.2.2⟩
                case measure => simp only [intOf]; omega
          · have hlt' : decide ((j : Int) < kn) = false := by simp; omega
            obtain rfl : j = kn := by omega
            have hle := sum_take_le (ks.map fun i => 3 + cntF l D' i.toNat) j
            obtain ⟨aa, ac, rfl⟩ := own_slice' hS.row
            have b2 : Blk ((wr.alloc (Obj.cells #[Value.string bEndcase] 9)).alloc (Obj.cells #[Value.slice oa (outA 11).length oc, Value.slice aa A.length ac, Value.slice (some ⟨wr.heap.size, 0, none⟩) 1 1] 67)) wr.heap.size 9 #[.string bEndcase] := (Blk.new wr _ _).alloc _
            have b3 : Blk ((wr.alloc (Obj.cells #[Value.string bEndcase] 9)).alloc (Obj.cells #[Value.slice oa (outA 11).length oc, Value.slice aa A.length ac, Value.slice (some ⟨wr.heap.size, 0, none⟩) 1 1] 67)) (wr.heap.size + 1) 67 #[.slice oa (outA 11).length oc, .slice aa A.length ac, .slice (some ⟨wr.heap.size, 0, none⟩) 1 1] := Blk.new_at _ (by simp) _ _
            have tB : Touch [] wr ((wr.alloc (Obj.cells #[Value.string bEndcase] 9)).alloc (Obj.cells #[Value.slice oa (outA 11).length oc, Value.slice aa A.length ac, Value.slice (some ⟨wr.heap.size, 0, none⟩) 1 1] 67)) := ((Touch.refl [] wr).alloc _).alloc _
            have hAl : A.length ≤ 999997 := by omega
            have hCon := Concat_go (wr.heap.size + 1) 3 (fun i => if i = 0 then .slice oa (outA 11).length oc else if i = 1 then .slice aa A.length ac else .slice (some ⟨wr.heap.size, 0, none⟩) 1 1) (fun i => if i = 0 then outA 11 else if i = 1 then A else [bEndcase]) ((wr.alloc (Obj.cells #[Value.string bEndcase] 9)).alloc (Obj.cells #[Value.slice oa (outA 11).length oc, Value.slice aa A.length ac, Value.slice (some ⟨wr.heap.size, 0, none⟩) 1 1] 67)) (by decide) (fun i hi => by
              rcases (by omega : i = 0 ∨ i = 1 ∨ i = 2) with rfl | rfl | rfl
              · exact ⟨b3.cell 0, (hS.out.quiet tB).low (Nat.zero_le _)⟩
              · exact ⟨b3.cell 1, (hS.row.quiet tB).low (Nat.zero_le _)⟩
              · exact ⟨b3.cell 2, words_row (ws := [bEndcase]) b2 (Nat.zero_le _) (by unfold maxLen; simp)⟩) (by have : (outA 11).length = 1 := rfl; simp [catF]; omega) (by have : (outA 11).length = 1 := rfl; simp [catF]; omega)
            have eC : catF (fun i => if i = 0 then outA 11 else if i = 1 then A else [bEndcase]) 3 = outA 11 ++ A ++ [bEndcase] := rfl
            rw [eC] at hCon
            have hfin : ∀ v wz, WordsAt wz w.heap.size v (outA 11 ++ A ++ [bEndcase]) → Touch [] w wz → Words l (D' + 1) k w (.returned v) wz := fun v wz hw ht => by
              refine ⟨v, _, rfl, hw, ?_, ?_, ?_, ht⟩
              · unfold wordsR
                rw [hnv, if_neg hown, if_pos rfl]
                simp only [List.length_append, List.length_cons, List.length_nil]
                omega
              · unfold cntF
                rw [hnv]
                have : (outA 11).length = 1 := rfl
                simp only [List.length_append, List.length_cons, List.length_nil]
                omega
              · intro s hs
                simp only [List.mem_append, List.mem_cons, List.not_mem_nil, or_false] at hs
                rcases hs with (hs | hs) | rfl
                · have h1 : ∀ s ∈ outA 11, s.size ≤ 600 := by decide
                  exact h1 s hs
                · exact hsz s hs
                · decide
            have TB := Lib.hid (And.intro (hS.t.trans tB (by simp)) hfin)
            clear eC b2 b3 tB hfin hsz hlen hle hAl hnv ih hkids hkv hcnt2 hlk hn hS
            go_wp2_with fail
            refine hCon.mono ?_
            rintro _ w7 ⟨v7, rfl, hw7, t7⟩
            have hF7 := TB.out.2 v7 w7 (hw7.low TB.out.1.size) (TB.out.1.trans t7 (by simp))
            have HF7 := Lib.hid hF7
            clear hF7 hw7 t7 hCon
            go_wp2
            go_ret
            exact HF7.out
      have hk11 : (kind == 11) = false := by simpa using hK11
      have hk11n : (kind != 11) = true := by simpa using hK11
      go_wp2_with fail
      go_loopw [65, 11] (fun i av wr => ∃ (j : Nat) (parts : Nat → List ByteArray), j ≤ kn ∧ i = .int .i64 (j : Int) ∧ (∀ i, i < j → wordsR l D' (ks.getD i 0).toNat (parts i)) ∧ StW w wr (allF (outA kind) parts j) (outA kind) av (.slice oa (outA kind).length oc) #[Value.int IntKind.i64 kind, Value.int IntKind.i64 num, Value.slice ka kn kc] ∧
          (allF (outA kind) parts j).length ≤ ((ks.map fun i => 3 + cntF l D' i.toNat).take j).sum ∧ ∀ s ∈ allF (outA kind) parts j, s.size ≤ 600) (fun i _ _ => kn - (intOf i).toNat)
      case atStart => exact ⟨0, fun _ => [], Nat.zero_le _, rfl, fun i hi => by omega, hS0, by simp [allF], by simp [allF]⟩
      case round =>
        obtain ⟨j, parts, hj, rfl, hrel, hS, hlen, hsz⟩ := hrel
        clear hS0 n0 n2
        have n0 := hS.nb.cell 0
        have n2 := hS.nb.cell 2
        obtain ⟨hkids, ih, hkv, hnv, hn, hcnt2⟩ := HC.out
        have hlk := HG.out.2.2.2.2.2.2
        by_cases hlt : j < kn
        · have hlt' : decide ((j : Int) < kn) = true := by simp; omega
          have hkr := hkv.quiet hS.t
          obtain ⟨g', off, rfl, hkc⟩ : ∃ g' off, ka = some ⟨g', off, none⟩ ∧ ∀ i, i < kn → wr.cell? ⟨g', off + i, none⟩ = some (.int .i64 (ks.getD i 0)) := by
            rcases hkr with ⟨_, _, e, e'⟩ | ⟨g', off, c', e, hk⟩
            · rw [e'] at hlk; simp at hlk; omega
            · cases e
              exact ⟨g', off, rfl, fun i hi => hk i (by omega)⟩
          have hcj := hkc j hlt
          have hkj := hkids (ks.getD j 0) (by rw [List.getD, List.getElem?_eq_getElem (by omega)]; exact List.getElem_mem _)
          obtain ⟨q, hq⟩ : ∃ q : Nat, ks.getD j 0 = q := ⟨(ks.getD j 0).toNat, by omega⟩
          have hsum := sum_take_succ (ks.map fun i => 3 + cntF l D' i.toNat) j (by simp; omega)
          have hgd : (ks.map fun i => 3 + cntF l D' i.toNat).getD j 0 = 3 + cntF l D' q := by
            rw [List.getD, List.getElem?_map, List.getElem?_eq_getElem (by omega)]
            have : ks[j]'(by omega) = (q : Int) := by rw [← hq, List.getD, List.getElem?_eq_getElem (by omega)]; rfl
            simp [this]
          rw [hgd] at hsum
          have hle1 := sum_take_le (ks.map fun i => 3 + cntF l D' i.toNat) (j + 1)
          rw [hq] at hcj hkj
          have hcall := fun W (t : Touch [] w W) => ih q (by omega) (by omega) D' (by omega) (by omega) W (hNN.out.quiet t) (hT.touch t)
          rw [hn] at hcall
          have ek : IntKind.i64.wrap ((j : Int) + 1) = (j + 1 : Nat) := by rw [IntKind.wrap_i64]; omega
          have hqt : (ks.getD j 0).toNat = q := by rw [hq]; simp
          have hroom : ∀ x, x ≤ cntF l D' q → (allF (outA kind) parts j).length + 1 + x ≤ 10000000 := fun x hx => by omega
          have hroom1 := hroom 0 (Nat.zero_le _)
          have HR := Lib.hid (And.intro hrel (And.intro hS (And.intro hlen (And.intro hsz (And.intro hsum (And.intro hqt hroom))))))
          clear hkr hkc hkids ih hkv hnv hrel hsz hgd hq hsum hqt hroom hlen hle1 hcnt2 hlk hn hol hkj
          by_cases hji : j < (outA kind).length
          · have hji' : decide ((j : Int) < (outA kind).length) = true := by simp; omega
            have hOut := hS.out
            obtain ⟨go, hgo⟩ : ∃ go, oa = some ⟨go, 0, none⟩ := by
              rcases hOut.2 with ⟨e, h0⟩ | ⟨go, cap, cur, e, _⟩
              · injection e with e1 e2 e3; omega
              · injection e with e1 e2 e3; exact ⟨go, e1⟩
            subst hgo
            have co := hOut.cell hji
            obtain ⟨sj, hsj⟩ : ∃ s, (outA kind).getD j .empty = s := ⟨_, rfl⟩
            rw [hsj] at co
            have hpre : (if j < (outA kind).length then [(outA kind).getD j .empty] else []) = [sj] := by rw [if_pos hji, hsj]
            have hsjs : sj.size ≤ 600 := by
              rw [← hsj]
              have hall : ∀ key, ∀ s ∈ outA key, s.size ≤ 600 := by
                intro key
                unfold outA
                repeat' split
                all_goals decide
              exact hall kind _ (by rw [List.getD, List.getElem?_eq_getElem hji]; exact List.getElem_mem _)
            have hS1 := hS.quiet ((Touch.refl [] wr).alloc (.cells #[.string sj] 9))
            have hW1 : WordsAt (wr.alloc (.cells #[.string sj] 9)) 0 (.slice (some ⟨wr.heap.size, 0, none⟩) 1 1) [sj] := words_row (ws := [sj]) (Blk.new wr _ _) (Nat.zero_le _) (by unfold maxLen; simp)
            have hS1r := hS1.row
            have hb1 : (allF (outA kind) parts j).length + [sj].length ≤ 10000000 := by simp only [List.length_cons, List.length_nil]; omega
            have hwb1 := hS1.t.size
            have HS1 := Lib.hid hS1
            have HP := Lib.hid (And.intro hpre hsjs)
            clear hS hOut hsj hS1 hpre hsjs
            go_wp2_with (at_builtin; refine wpList_words rfl _ _ rfl _ _ _ _ w.heap.size 0 rfl hS1r rfl hW1 hb1 hwb1 ?_)
            intro v1 wx k1 k2 k3 k4
            have k1 : WordsAt wx w.heap.size v1 (allF (outA kind) parts j ++ [sj]) := by simpa using k1
            have hS2 := HS1.out.app k1 k2 (by simpa using k3)
            clear k1 k2 k3 k4 hS1r hW1 HS1 co hcj n2
            have n0 := hS2.nb.cell 0
            go_wp2_with fail
            refine (hcall wx hS2.t).mono ?_
            rintro _ w3 ⟨v2, ws2, rfl, hw2, hr2, hl2, hz2, t3⟩
            obtain ⟨a2, c2, rfl⟩ := own_slice' hw2
            have hS3 := hS2.quiet t3
            have n0 := hS3.nb.cell 0
            have hwb := hS3.t.size
            have hb2 : (allF (outA kind) parts j ++ [sj]).length + ws2.length ≤ 10000000 := by have := HR.out.2.2.2.2.2.2 _ hl2; rw [List.length_append]; simp only [List.length_cons, List.length_nil]; omega
            have hS3r := hS3.row
            have HS3 := Lib.hid (And.intro hS3 (And.intro hr2 (And.intro hl2 hz2)))
            clear hS2 hS3 hr2 hl2 hz2 hcall t3
            go_wp2_with (at_builtin; refine wpList_words rfl _ _ rfl _ _ _ _ w.heap.size wx.heap.size rfl hS3r rfl hw2 hb2 hwb ?_)
            intro v4 w4 k1 k2 k3 k4
            obtain ⟨hS3, hr2, hl2, hz2⟩ := HS3.out
            have k1 : WordsAt w4 w.heap.size v4 ((allF (outA kind) parts j ++ [sj]) ++ ws2) := by simpa using k1
            have hS4 := hS3.app k1 k2 (by simpa using k3)
            have hall : (allF (outA kind) parts j ++ [sj]) ++ ws2 = allF (outA kind) (fun i => if i = j then ws2 else parts i) (j + 1) := by
              simp only [allF, if_true]
              rw [allF_congr j (fun i hi => if_neg (Nat.ne_of_lt hi)), List.append_assoc]
              congr 1
              unfold pieceF
              rw [HP.out.1]
            rw [hall] at hS4
            have HS4 := Lib.hid (And.intro hS4 (And.intro hr2 (And.intro hl2 (And.intro hz2 hall))))
            clear hS4 hS3 hr2 hl2 hz2 hall k1 k2 k3 k4 hw2 hS3r HS3
            go_wp2
            obtain ⟨hS4, hr2, hl2, hz2, hall⟩ := HS4.out
            obtain ⟨hrel, hS, hlen, hsz, hsum, hqt, hroom⟩ := HR.out
            go_roundw
            case rel =>
              refine ⟨j + 1, fun i => if i = j then ws2 else parts i, by omega, vint (by omega), fun i hi => ?_, hS4, ?_, ?_⟩
              · by_cases e : i = j
                · subst e
                  simp only [if_true]
                  rw [hqt]
                  exact hr2
                · simp only [if_neg e]
                  exact hrel i (by omega)
              · rw [← hall, hsum, List.length_append, List.length_append]
                simp only [List.length_cons, List.length_nil]
                omega
              · rw [← hall]
                intro s hs
                rcases List.mem_append.1 hs with h | h
                · rcases List.mem_append.1 h with h | h
                  · exact hsz s h
                  · rw [List.mem_singleton.1 h]; exact HP.out.2
                · exact hz2 s h
            case measure => simp only [intOf]; omega
          · have hji' : decide ((j : Int) < (outA kind).length) = false := by simp; omega
            obtain ⟨wx, hwx⟩ : ∃ wx, wx = wr := ⟨_, rfl⟩
            subst hwx
            have hS2 : StW w wx (allF (outA kind) parts j ++ []) (outA kind) u11 (.slice oa (outA kind).length oc) #[Value.int IntKind.i64 kind, Value.int IntKind.i64 num, Value.slice (some ⟨g', off, none⟩) kn kc] := by rw [List.append_nil]; exact hS
            have hpre : (if j < (outA kind).length then [(outA kind).getD j .empty] else []) = ([] : List ByteArray) := if_neg hji
            have HP := Lib.hid hpre
            clear hS hpre
            go_wp2_with fail
            refine (hcall wx hS2.t).mono ?_
            rintro _ w3 ⟨v2, ws2, rfl, hw2, hr2, hl2, hz2, t3⟩
            obtain ⟨a2, c2, rfl⟩ := own_slice' hw2
            have hS3 := hS2.quiet t3
            have n0 := hS3.nb.cell 0
            have hwb := hS3.t.size
            have hb2 : (allF (outA kind) parts j ++ ([] : List ByteArray)).length + ws2.length ≤ 10000000 := by have := HR.out.2.2.2.2.2.2 _ hl2; rw [List.length_append]; simp only [List.length_nil]; omega
            have hS3r := hS3.row
            have HS3 := Lib.hid (And.intro hS3 (And.intro hr2 (And.intro hl2 hz2)))
            clear hS2 hS3 hr2 hl2 hz2 hcall t3
            go_wp2_with (at_builtin; refine wpList_words rfl _ _ rfl _ _ _ _ w.heap.size wx.heap.size rfl hS3r rfl hw2 hb2 hwb ?_)
            intro v4 w4 k1 k2 k3 k4
            obtain ⟨hS3, hr2, hl2, hz2⟩ := HS3.out
            have k1 : WordsAt w4 w.heap.size v4 ((allF (outA kind) parts j ++ ([] : List ByteArray)) ++ ws2) := by simpa using k1
            have hS4 := hS3.app k1 k2 (by simpa using k3)
            have hall : (allF (outA kind) parts j ++ ([] : List ByteArray)) ++ ws2 = allF (outA kind) (fun i => if i = j then ws2 else parts i) (j + 1) := by
              simp only [allF, if_true]
              rw [allF_congr j (fun i hi => if_neg (Nat.ne_of_lt hi)), List.append_assoc]
              congr 1
              unfold pieceF
              rw [HP.out]
            rw [hall] at hS4
            have HS4 := Lib.hid (And.intro hS4 (And.intro hr2 (And.intro hl2 (And.intro hz2 hall))))
            clear hS4 hS3 hr2 hl2 hz2 hall k1 k2 k3 k4 hw2 hS3r HS3
            go_wp2
            obtain ⟨hS4, hr2, hl2, hz2, hall⟩ := HS4.out
            obtain ⟨hrel, hS, hlen, hsz, hsum, hqt, hroom⟩ := HR.out
            go_roundw
            case rel =>
              refine ⟨j + 1, fun i => if i = j then ws2 else parts i, by omega, vint (by omega), fun i hi => ?_, hS4, ?_, ?_⟩
              · by_cases e : i = j
                · subst e
                  simp only [if_true]
                  rw [hqt]
                  exact hr2
                · simp only [if_neg e]
                  exact hrel i (by omega)
              · rw [← hall, hsum, List.length_append, List.length_append]
                simp only [List.length_nil]
                omega
              · rw [← hall]
                intro s hs
                rcases List.mem_append.1 hs with h | h
                · rcases List.mem_append.1 h with h | h
                  · exact hsz s h
                  · cases h
                · exact hz2 s h
            case measure => simp only [intOf]; omega
        · have hlt' : decide ((j : Int) < kn) = false := by simp; omega
          obtain rfl : j = kn := by omega
          have hle := sum_take_le (ks.map fun i => 3 + cntF l D' i.toNat) j
          have hout : ∀ key, ∀ s ∈ outA key, s.size ≤ 600 := by
            intro key
            unfold outA
            repeat' split
            all_goals decide
          have hfin : ∀ v wz, WordsAt wz w.heap.size v (endF kind (outA kind) (allF (outA kind) parts j)) → Touch [] w wz → Words l (D' + 1) k w (.returned v) wz := fun v wz hw ht => by
            refine ⟨v, _, rfl, hw, ?_, ?_, ?_, ht⟩
            · unfold wordsR
              rw [hnv, if_neg hown, if_neg hK11]
              refine ⟨parts, fun i hi => hrel i (by simp only at hi; omega), ?_⟩
              simp only [hlk]
            · unfold cntF
              rw [hnv]
              simp only
              unfold endF
              split
              · omega
              · rw [List.length_append, List.length_singleton]
                omega
            · intro s hs
              unfold endF at hs
              split at hs
              · exact hsz s hs
              · rcases List.mem_append.1 hs with h | h
                · exact hsz s h
                · rw [List.mem_singleton.1 h, List.getD]
                  cases e : (outA kind)[(outA kind).length - 1]? with
                  | none => decide
                  | some x => exact hout kind x (List.mem_of_getElem? e)
          have hb1 : (allF (outA kind) parts j).length + 1 ≤ 10000000 := by omega
          have HFn := Lib.hid hfin
          clear hfin hrel hsz hlen hle hnv ih hkids hkv hcnt2 hlk hn
          by_cases h3 : kind = 3
          · have h3' : (kind == 3) = true := by simpa using h3
            have he : endF kind (outA kind) (allF (outA kind) parts j) = allF (outA kind) parts j := by unfold endF; rw [if_pos h3]
            have hR := HFn.out _ _ (by rw [he]; exact hS.row) hS.t
            have HRR := Lib.hid hR
            clear hR hS he h3
            go_wp2
            go_ret
            exact HRR.out
          · have h3' : (kind == 3) = false := by simpa using h3
            have he : endF kind (outA kind) (allF (outA kind) parts j) = allF (outA kind) parts j ++ [(outA kind).getD ((outA kind).length - 1) .empty] := by unfold endF; rw [if_neg h3]
            have hol1 : 1 ≤ (outA kind).length := by
              rcases HW2.out.2.2 with rfl | rfl | rfl | rfl | rfl | rfl
              · exact absurd rfl h3
              all_goals decide
            have hOut := hS.out
            obtain ⟨go, hgo⟩ : ∃ go, oa = some ⟨go, 0, none⟩ := by
              rcases hOut.2 with ⟨e, h0⟩ | ⟨go, cap, cur, e, _⟩
              · injection e with e1 e2 e3; omega
              · injection e with e1 e2 e3; exact ⟨go, e1⟩
            subst hgo
            obtain ⟨ol, hol'⟩ : ∃ ol, (outA kind).length = ol + 1 := ⟨(outA kind).length - 1, by omega⟩
            have co := hOut.cell (i := ol) (by omega)
            rw [hol', Nat.add_sub_cancel] at he
            obtain ⟨sj, hsj⟩ : ∃ s, (outA kind).getD ol .empty = s := ⟨_, rfl⟩
            rw [hsj] at co he
            have hwo : IntKind.i64.wrap (((outA kind).length : Int) - 1) = (ol : Int) := by rw [IntKind.wrap_i64]; omega
            have hlo : decide ((ol : Int) < (outA kind).length) = true := by simp; omega
            have hlo2 : ol < (outA kind).length := by omega
            have hS1 := hS.quiet ((Touch.refl [] wr).alloc (.cells #[.string sj] 9))
            have hW1 : WordsAt (wr.alloc (.cells #[.string sj] 9)) 0 (.slice (some ⟨wr.heap.size, 0, none⟩) 1 1) [sj] := words_row (ws := [sj]) (Blk.new wr _ _) (Nat.zero_le _) (by unfold maxLen; simp)
            have hS1r := hS1.row
            have hb1' : (allF (outA kind) parts j).length + [sj].length ≤ 10000000 := by simp only [List.length_cons, List.length_nil]; omega
            have hwb1 := hS1.t.size
            have HS1 := Lib.hid (And.intro hS1 he)
            clear hS hOut hsj hS1 he hol' h3 hb1 hol1
            go_wp2_with (at_builtin; refine wpList_words rfl _ _ rfl _ _ _ _ w.heap.size 0 rfl hS1r rfl hW1 hb1' hwb1 ?_)
            intro v1 wx k1 k2 k3 k4
            have k1 : WordsAt wx w.heap.size v1 (allF (outA kind) parts j ++ [sj]) := by simpa using k1
            have hS2 := HS1.out.1.app k1 k2 (by simpa using k3)
            have hR := HFn.out v1 wx (by rw [HS1.out.2]; exact k1) hS2.t
            have HRR := Lib.hid hR
            clear hR hS2 k1 k2 k3 k4 hS1r hW1 co
            go_wp2
            go_ret
            exact HRR.out
end Go.Proofs.YtnhhflnanogpjaaGreatDoor
