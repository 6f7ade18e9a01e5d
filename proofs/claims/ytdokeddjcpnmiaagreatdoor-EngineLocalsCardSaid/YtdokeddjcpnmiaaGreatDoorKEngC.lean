import Derived.Test.YtdokeddjcpnmiaaGreatDoorKEngB
/- The engine's control words (printed by wip/engfn.py). -/
namespace Go.Proofs.YtdokeddjcpnmiaaGreatDoor
open Go.RowKit
namespace En

theorem Start.box0 (w : World) {g : Nat} {p : Lay} {F : List Nat} {m : M} (h : EngAt w g p F m) : Start w (w.alloc (.cells #[.int .i64 0, .int .i64 0, .int .i64 0] 48)) F w.heap.size ∧ True := ⟨Start.new w h, trivial⟩
theorem Start.box1 (w : World) {g : Nat} {p : Lay} {F : List Nat} {m : M} (h : EngAt w g p F m) : Start w ((w.alloc (.cells #[.pointer (some ⟨g, 0, none⟩)] 27)).alloc (.cells #[.int .i64 0, .int .i64 0, .int .i64 0] 48)) F (w.heap.size + 1) ∧ Cap ((w.alloc (.cells #[.pointer (some ⟨g, 0, none⟩)] 27)).alloc (.cells #[.int .i64 0, .int .i64 0, .int .i64 0] 48)) F w.heap.size g :=
  ⟨⟨((Touch.refl [] w).alloc _).alloc _, Blk.new_at (n := w.heap.size + 1) (w.alloc _) (by simp) _ _, by omega, h.lt⟩, ⟨(Blk.new w _ _).alloc _, fun hx => by have := h.lt _ hx; omega⟩⟩
theorem Start.box2 (w : World) {g : Nat} {p : Lay} {F : List Nat} {m : M} (h : EngAt w g p F m) (op a v : Int) : Start w (((w.alloc (.cells #[.pointer (some ⟨g, 0, none⟩)] 27)).alloc (.cells #[.int .u8 op, .int .i64 a, .int .i64 v] 56)).alloc (.cells #[.int .i64 0, .int .i64 0, .int .i64 0] 48)) F (w.heap.size + 2) ∧ Cap (((w.alloc (.cells #[.pointer (some ⟨g, 0, none⟩)] 27)).alloc (.cells #[.int .u8 op, .int .i64 a, .int .i64 v] 56)).alloc (.cells #[.int .i64 0, .int .i64 0, .int .i64 0] 48)) F w.heap.size g ∧ CapX (((w.alloc (.cells #[.pointer (some ⟨g, 0, none⟩)] 27)).alloc (.cells #[.int .u8 op, .int .i64 a, .int .i64 v] 56)).alloc (.cells #[.int .i64 0, .int .i64 0, .int .i64 0] 48)) F (w.heap.size + 1) op a v :=
  ⟨⟨(((Touch.refl [] w).alloc _).alloc _).alloc _, Blk.new_at (n := w.heap.size + 2) ((w.alloc _).alloc _) (by simp) _ _, by omega, h.lt⟩, ⟨((Blk.new w _ _).alloc _).alloc _, fun hx => by have := h.lt _ hx; omega⟩, ⟨(Blk.new_at (n := w.heap.size + 1) (w.alloc _) (by simp) _ _).alloc _, fun hx => by have := h.lt _ hx; omega⟩⟩
theorem pushFr_S (m : M) (f : Fr) : (m.pushFr f).2.S = m.S := by unfold M.pushFr; split <;> rfl
theorem named_S (m : M) (x : Int) : (m.named x).2.S = m.S := by unfold M.named; split <;> rfl
theorem loop_S (m : M) (b t : Int) : (m.loop b t).2.S = m.S := by
  unfold M.loop
  split
  · rfl
  · dsimp only
    split <;> rfl
theorem taken_room {m : M} {n : Nat} (hf : Fine m) (hn : n ≤ m.S.st.length) : (m.taken n).S.st.length + n ≤ 128 := by rw [taken_len hn]; have := hf.st; omega
set_option maxRecDepth 100000 in
set_option maxHeartbeats 1600000 in
theorem toR_sem {w : World} {g : Nat} {p : Lay} {F : List Nat} {m : M} (h : EngAt w g p F m) (hf : Fine m) : Calls Tryz.prog 99 #[.pointer (some ⟨g, 0, none⟩)] w fun R w' => R = .returned (stV (m.control 1).1) ∧ Keep w g p F (m.control 1).2 w' := by
  obtain ⟨do_, hdo⟩ : ∃ do_ : List Int → M → Int × M, do_ = (fun l m => m.pushFr ⟨2, 0, 0, l.getD 0 0, 0, []⟩) := ⟨_, rfl⟩
  have hc : m.control 1 = m.with_ 1 do_ := by rw [hdo]; rfl
  rw [hc]
  clear hc
  obtain ⟨z, hz⟩ : ∃ z, w.heap.size = z := ⟨_, rfl⟩
  have HS := Lib.hid (Start.box1 w h)
  have hE0 := h.touch HS.out.1.t (by simp)
  rw [hz] at HS
  have hT := with_sem hE0 hf 1 (by decide) 136 #[] #[.pointer (some ⟨z, 0, none⟩)] do_ (enters_of Tryz.func136 (by kernel_rfl) rfl) (by rw [hdo]; exact toR_acts HS.out.2) (fun hn => by rw [hdo]; exact (taken_fine hf 1).pushFr _) (fun hn hr => by rw [hdo] at hr ⊢; exact by rw [show ∀ f, ((m.taken 1).pushFr f).2.S = (m.taken 1).S from pushFr_S _]; exact taken_room hf hn)
  have b0 := HS.out.2.at_ (Touch.refl F _)
  rw [show ((1 : Nat) : Int) = 1 from rfl] at hT
  obtain ⟨⟨⟨sa, sb, sc⟩, m'⟩, hq⟩ : ∃ q, m.with_ 1 do_ = q := ⟨_, rfl⟩
  rw [hq] at hT ⊢
  dsimp only at hT ⊢
  clear hq
  clear hdo hE0 h hf
  go_enter Tryz.func99, Tryz.ntmps99
  go_upto_region 1 with fail
  clear hz
  generalize (w.alloc (.cells #[.pointer (some ⟨g, 0, none⟩)] 27)).alloc (.cells #[.int .i64 0, .int .i64 0, .int .i64 0] 48) = W0 at *
  go_wp2_with fail
  refine hT.mono ?_
  rintro _ w1 ⟨rfl, k1⟩
  have hb := HS.out.1.blk k1
  obtain ⟨⟨e0, e1, e2⟩, g0, g1, g2⟩ := zeros_of hb
  obtain ⟨r0, r1, r2⟩ := three_read hb (.int .i64 sa) (.int .i64 sb) (.int .i64 sc)
  have HK := Lib.hid (HS.out.1.end_ k1 (.int .i64 sa) (.int .i64 sb) (.int .i64 sc))
  clear k1 hb hT b0
  go_wp2_with fail
  refine bodyPost_ret (by simp [results, Tryz.results99, go_sem, r0, r1, r2]; try rfl) rfl ?_
  exact ⟨rfl, HK.out⟩
set_option maxRecDepth 100000 in
set_option maxHeartbeats 1600000 in
theorem executes_sem {w : World} {g : Nat} {p : Lay} {F : List Nat} {m : M} (h : EngAt w g p F m) (hf : Fine m) : Calls Tryz.prog 105 #[.pointer (some ⟨g, 0, none⟩)] w fun R w' => R = .returned (stV (m.control 7).1) ∧ Keep w g p F (m.control 7).2 w' := by
  obtain ⟨do_, hdo⟩ : ∃ do_ : List Int → M → Int × M, do_ = (fun l m => m.named (l.getD 0 0)) := ⟨_, rfl⟩
  have hc : m.control 7 = m.with_ 1 do_ := by rw [hdo]; rfl
  rw [hc]
  clear hc
  obtain ⟨z, hz⟩ : ∃ z, w.heap.size = z := ⟨_, rfl⟩
  have HS := Lib.hid (Start.box1 w h)
  have hE0 := h.touch HS.out.1.t (by simp)
  rw [hz] at HS
  have hT := with_sem hE0 hf 1 (by decide) 138 #[] #[.pointer (some ⟨z, 0, none⟩)] do_ (enters_of Tryz.func138 (by kernel_rfl) rfl) (by rw [hdo]; exact exec_acts HS.out.2 hf.words) (fun hn => by rw [hdo]; exact (taken_fine hf 1).named _) (fun hn hr => by rw [hdo] at hr ⊢; exact by rw [show ∀ x, ((m.taken 1).named x).2.S = (m.taken 1).S from named_S _]; exact taken_room hf hn)
  have b0 := HS.out.2.at_ (Touch.refl F _)
  rw [show ((1 : Nat) : Int) = 1 from rfl] at hT
  obtain ⟨⟨⟨sa, sb, sc⟩, m'⟩, hq⟩ : ∃ q, m.with_ 1 do_ = q := ⟨_, rfl⟩
  rw [hq] at hT ⊢
  dsimp only at hT ⊢
  clear hq
  clear hdo hE0 h hf
  go_enter Tryz.func105, Tryz.ntmps105
  go_upto_region 1 with fail
  clear hz
  generalize (w.alloc (.cells #[.pointer (some ⟨g, 0, none⟩)] 27)).alloc (.cells #[.int .i64 0, .int .i64 0, .int .i64 0] 48) = W0 at *
  go_wp2_with fail
  refine hT.mono ?_
  rintro _ w1 ⟨rfl, k1⟩
  have hb := HS.out.1.blk k1
  obtain ⟨⟨e0, e1, e2⟩, g0, g1, g2⟩ := zeros_of hb
  obtain ⟨r0, r1, r2⟩ := three_read hb (.int .i64 sa) (.int .i64 sb) (.int .i64 sc)
  have HK := Lib.hid (HS.out.1.end_ k1 (.int .i64 sa) (.int .i64 sb) (.int .i64 sc))
  clear k1 hb hT b0
  go_wp2_with fail
  refine bodyPost_ret (by simp [results, Tryz.results105, go_sem, r0, r1, r2]; try rfl) rfl ?_
  exact ⟨rfl, HK.out⟩
end En
end Go.Proofs.YtdokeddjcpnmiaaGreatDoor

/- The engine's control words, further (printed by wip/engfn.py). -/
namespace Go.Proofs.YtdokeddjcpnmiaaGreatDoor
open Go.RowKit
namespace En

theorem index_eng {w : World} {g : Nat} {p : Lay} {F : List Nat} {m : M} (h : EngAt w g p F m) (hfr : m.fr.length ≤ 128) (n : Nat) (hn : n < 1000) : Calls Tryz.prog 244 #[.pointer (some ⟨p.f, 0, none⟩), .int .i64 n] w fun e w' =>
    e = .returned (.tuple #[.int .i64 (indexF m.fr n).1, .int .i64 (indexF m.fr n).2]) ∧ Keep w g p F m w' := by
  have hE := h
  obtain ⟨cv, ev, wv, Ff, FS, FI, h, rfl⟩ := h
  obtain ⟨gg, cap, a, c0, ha, hg, hb, hk, hr⟩ := h.fr.parts
  have hx : ∀ i, i < m.fr.length → w.cell? ⟨gg, i * 6 + 3, none⟩ = some (.int .i64 (m.fr.getD i .none).x) := fun i hi => by
    obtain ⟨Q, hQ, hL, _⟩ := hr (by omega)
    have hl : Q.length = m.fr.length := by rw [hL, List.length_map]
    have hrow := hQ.row
    rw [hl] at hrow
    have h1 := (fr_cell hrow (List.getElem?_eq_getElem (by omega : i < Q.length))).2.2.2.1
    rw [h1, hL, List.getD_eq_getElem?_getD, List.getElem?_map, List.getElem?_eq_getElem (by omega : i < Q.length)]
    rfl
  refine (Idx_any w p.f gg m.fr.length cap a (fun i => (m.fr.getD i .none).k) (fun i => (m.fr.getD i .none).x) hb c0 ha hg (by omega) hk hx n hn (indexF m.fr n) ?_).mono ?_
  · unfold indexF
    by_cases h1 : n < m.fr.length ∧ ∀ i, i ≤ n → (m.fr.getD (m.fr.length - 1 - i) .none).k = 3
    · rw [if_pos h1, if_pos ⟨fun i hi _ => h1.2 i hi, h1.1⟩]
    · rw [if_neg h1, if_neg (fun h2 => h1 ⟨h2.2, fun i hi => h2.1 i hi (by have := h2.2; omega)⟩)]
  · rintro _ w1 ⟨rfl, t⟩
    exact ⟨rfl, (Keep.refl hE).quiet t⟩
set_option maxRecDepth 100000 in
set_option maxHeartbeats 1600000 in
theorem index_sem {w : World} {g : Nat} {p : Lay} {F : List Nat} {m : M} (h : EngAt w g p F m) (hf : Fine m) (n : Nat) (hn : n < 1000) : Calls Tryz.prog 137 #[.pointer (some ⟨g, 0, none⟩), .int .i64 n] w fun R w' => R = .returned (stV (m.index n).1) ∧ Keep w g p F (m.index n).2 w' := by
  obtain ⟨z, hz⟩ : ∃ z, w.heap.size = z := ⟨_, rfl⟩
  have HS := Lib.hid (Start.box0 w h)
  have hE0 := h.touch HS.out.1.t (by simp)
  rw [hz] at HS
  have hI := index_eng hE0 hf.fr n hn
  have c3 := hE0.c3
  obtain ⟨⟨x, er⟩, hx⟩ : ∃ q, indexF m.fr n = q := ⟨_, rfl⟩
  rw [hx] at hI
  dsimp only at hI
  by_cases h0 : er = 0
  · subst h0
    have e1 : m.index n = M.done (m.push x) := by unfold M.index; rw [hx]; exact if_pos rfl
    rw [e1]
    obtain ⟨⟨pe, pm⟩, hp⟩ : ∃ q, m.push x = q := ⟨_, rfl⟩
    have hpf : Fine pm := by have := hf.push x; rw [hp] at this; exact this
    have HP := Lib.hid (fun (W : World) F1 (hW : EngAt W g p F1 m) => push_sem hW hf.st x)
    rw [hp] at HP ⊢
    have HD := Lib.hid (fun (W : World) F1 (hW : EngAt W g p F1 pm) => done_sem hW hpf pe)
    obtain ⟨⟨⟨sa, sb, sc⟩, m'⟩, hq⟩ : ∃ q, M.done (pe, pm) = q := ⟨_, rfl⟩
    rw [hq] at HD ⊢
    clear hq e1 hx hp hpf hE0 h hf
    go_enter Tryz.func137, Tryz.ntmps137
    go_upto_region 1 with fail
    clear hz
    generalize w.alloc (.cells #[.int .i64 0, .int .i64 0, .int .i64 0] 48) = W0 at *
    go_wp2_with fail
    refine hI.mono ?_
    rintro _ w1 ⟨rfl, k1⟩
    obtain ⟨F1, h1, n1⟩ := k1.open
    have hP := HP.out _ _ h1
    clear hI k1 h1 c3
    go_wp2_with fail
    refine hP.mono ?_
    rintro _ w2 ⟨rfl, k2⟩
    have k2 := n1.out _ _ k2
    obtain ⟨F2, h2, n2⟩ := k2.open
    have hD := HD.out _ _ h2
    clear hP k2 h2 n1
    go_wp2_with fail
    refine hD.mono ?_
    rintro _ w3 ⟨rfl, k3⟩
    have k3 := n2.out _ _ k3
    have hb := HS.out.1.blk k3
    obtain ⟨⟨e0, e1, e2⟩, g0, g1, g2⟩ := zeros_of hb
    obtain ⟨r0, r1, r2⟩ := three_read hb (.int .i64 sa) (.int .i64 sb) (.int .i64 sc)
    have HK := Lib.hid (HS.out.1.end_ k3 (.int .i64 sa) (.int .i64 sb) (.int .i64 sc))
    clear k3 hb hD
    go_wp2_with fail
    refine bodyPost_ret (by simp [results, Tryz.results137, go_sem, r0, r1, r2]; try rfl) rfl ?_
    exact ⟨rfl, HK.out⟩
  · have e1 : m.index n = m.throw er := by unfold M.index; rw [hx]; exact if_neg h0
    rw [e1]
    have h0' : (er == 0) = false := by simpa using h0
    have HT := Lib.hid (fun (W : World) F1 (hW : EngAt W g p F1 m) => throw_sem hW hf er)
    obtain ⟨⟨⟨sa, sb, sc⟩, m'⟩, hq⟩ : ∃ q, m.throw er = q := ⟨_, rfl⟩
    rw [hq] at HT ⊢
    clear hq e1 hx hE0 h hf h0
    go_enter Tryz.func137, Tryz.ntmps137
    go_upto_region 1 with fail
    clear hz
    generalize w.alloc (.cells #[.int .i64 0, .int .i64 0, .int .i64 0] 48) = W0 at *
    go_wp2_with fail
    refine hI.mono ?_
    rintro _ w1 ⟨rfl, k1⟩
    obtain ⟨F1, h1, n1⟩ := k1.open
    have hT := HT.out _ _ h1
    clear hI k1 h1 c3
    go_wp2_with fail
    refine hT.mono ?_
    rintro _ w2 ⟨rfl, k2⟩
    have k2 := n1.out _ _ k2
    have hb := HS.out.1.blk k2
    obtain ⟨⟨e0, e1, e2⟩, g0, g1, g2⟩ := zeros_of hb
    obtain ⟨r0, r1, r2⟩ := three_read hb (.int .i64 sa) (.int .i64 sb) (.int .i64 sc)
    have HK := Lib.hid (HS.out.1.end_ k2 (.int .i64 sa) (.int .i64 sb) (.int .i64 sc))
    clear k2 hb hT
    go_wp2_with fail
    refine bodyPost_ret (by simp [results, Tryz.results137, go_sem, r0, r1, r2]; try rfl) rfl ?_
    exact ⟨rfl, HK.out⟩
set_option maxRecDepth 100000 in
set_option maxHeartbeats 1600000 in
theorem inner_sem {w : World} {g : Nat} {p : Lay} {F : List Nat} {m : M} (h : EngAt w g p F m) (hf : Fine m) : Calls Tryz.prog 102 #[.pointer (some ⟨g, 0, none⟩)] w fun R w' => R = .returned (stV (m.control 4).1) ∧ Keep w g p F (m.control 4).2 w' := by
  rw [show m.control 4 = m.index 0 from rfl]
  obtain ⟨z, hz⟩ : ∃ z, w.heap.size = z := ⟨_, rfl⟩
  have HS := Lib.hid (Start.box0 w h)
  have hE0 := h.touch HS.out.1.t (by simp)
  rw [hz] at HS
  have hT := index_sem hE0 hf 0 (by decide)
  rw [show ((0 : Nat) : Int) = 0 from rfl] at hT
  obtain ⟨⟨⟨sa, sb, sc⟩, m'⟩, hq⟩ : ∃ q, m.index 0 = q := ⟨_, rfl⟩
  rw [hq] at hT ⊢
  dsimp only at hT ⊢
  clear hq
  clear hE0 h hf
  go_enter Tryz.func102, Tryz.ntmps102
  go_upto_region 1 with fail
  clear hz
  generalize w.alloc (.cells #[.int .i64 0, .int .i64 0, .int .i64 0] 48) = W0 at *
  go_wp2_with fail
  refine hT.mono ?_
  rintro _ w1 ⟨rfl, k1⟩
  have hb := HS.out.1.blk k1
  obtain ⟨⟨e0, e1, e2⟩, g0, g1, g2⟩ := zeros_of hb
  obtain ⟨r0, r1, r2⟩ := three_read hb (.int .i64 sa) (.int .i64 sb) (.int .i64 sc)
  have HK := Lib.hid (HS.out.1.end_ k1 (.int .i64 sa) (.int .i64 sb) (.int .i64 sc))
  clear k1 hb hT
  go_wp2_with fail
  refine bodyPost_ret (by simp [results, Tryz.results102, go_sem, r0, r1, r2]; try rfl) rfl ?_
  exact ⟨rfl, HK.out⟩
set_option maxRecDepth 100000 in
set_option maxHeartbeats 1600000 in
theorem outer_sem {w : World} {g : Nat} {p : Lay} {F : List Nat} {m : M} (h : EngAt w g p F m) (hf : Fine m) : Calls Tryz.prog 103 #[.pointer (some ⟨g, 0, none⟩)] w fun R w' => R = .returned (stV (m.control 5).1) ∧ Keep w g p F (m.control 5).2 w' := by
  rw [show m.control 5 = m.index 1 from rfl]
  obtain ⟨z, hz⟩ : ∃ z, w.heap.size = z := ⟨_, rfl⟩
  have HS := Lib.hid (Start.box0 w h)
  have hE0 := h.touch HS.out.1.t (by simp)
  rw [hz] at HS
  have hT := index_sem hE0 hf 1 (by decide)
  rw [show ((1 : Nat) : Int) = 1 from rfl] at hT
  obtain ⟨⟨⟨sa, sb, sc⟩, m'⟩, hq⟩ : ∃ q, m.index 1 = q := ⟨_, rfl⟩
  rw [hq] at hT ⊢
  dsimp only at hT ⊢
  clear hq
  clear hE0 h hf
  go_enter Tryz.func103, Tryz.ntmps103
  go_upto_region 1 with fail
  clear hz
  generalize w.alloc (.cells #[.int .i64 0, .int .i64 0, .int .i64 0] 48) = W0 at *
  go_wp2_with fail
  refine hT.mono ?_
  rintro _ w1 ⟨rfl, k1⟩
  have hb := HS.out.1.blk k1
  obtain ⟨⟨e0, e1, e2⟩, g0, g1, g2⟩ := zeros_of hb
  obtain ⟨r0, r1, r2⟩ := three_read hb (.int .i64 sa) (.int .i64 sb) (.int .i64 sc)
  have HK := Lib.hid (HS.out.1.end_ k1 (.int .i64 sa) (.int .i64 sb) (.int .i64 sc))
  clear k1 hb hT
  go_wp2_with fail
  refine bodyPost_ret (by simp [results, Tryz.results103, go_sem, r0, r1, r2]; try rfl) rfl ?_
  exact ⟨rfl, HK.out⟩
set_option maxRecDepth 100000 in
set_option maxHeartbeats 1600000 in
theorem unloop_sem {w : World} {g : Nat} {p : Lay} {F : List Nat} {m : M} (h : EngAt w g p F m) (hf : Fine m) : Calls Tryz.prog 104 #[.pointer (some ⟨g, 0, none⟩)] w fun R w' => R = .returned (stV (m.control 6).1) ∧ Keep w g p F (m.control 6).2 w' := by
  rw [show m.control 6 = M.done m.leave from rfl]
  obtain ⟨z, hz⟩ : ∃ z, w.heap.size = z := ⟨_, rfl⟩
  have HS := Lib.hid (Start.box0 w h)
  have hE0 := h.touch HS.out.1.t (by simp)
  rw [hz] at HS
  have hV := leave_sem hE0 hf.fr
  have hfl := hf.leave
  obtain ⟨⟨le, lm⟩, hl⟩ : ∃ q, m.leave = q := ⟨_, rfl⟩
  rw [hl] at hV hfl ⊢
  dsimp only at hV hfl
  have HD := Lib.hid (fun (W : World) F1 (hW : EngAt W g p F1 lm) => done_sem hW hfl le)
  obtain ⟨⟨⟨sa, sb, sc⟩, m'⟩, hq⟩ : ∃ q, M.done (le, lm) = q := ⟨_, rfl⟩
  rw [hq] at HD ⊢
  clear hq hl hfl hE0 h hf
  go_enter Tryz.func104, Tryz.ntmps104
  go_upto_region 1 with fail
  clear hz
  generalize w.alloc (.cells #[.int .i64 0, .int .i64 0, .int .i64 0] 48) = W0 at *
  go_wp2_with fail
  refine hV.mono ?_
  rintro _ w1 ⟨rfl, k1⟩
  obtain ⟨F1, h1, n1⟩ := k1.open
  have hD := HD.out _ _ h1
  clear hV k1 h1
  go_wp2_with fail
  refine hD.mono ?_
  rintro _ w2 ⟨rfl, k2⟩
  have k2 := n1.out _ _ k2
  have hb := HS.out.1.blk k2
  obtain ⟨⟨e0, e1, e2⟩, g0, g1, g2⟩ := zeros_of hb
  obtain ⟨r0, r1, r2⟩ := three_read hb (.int .i64 sa) (.int .i64 sb) (.int .i64 sc)
  have HK := Lib.hid (HS.out.1.end_ k2 (.int .i64 sa) (.int .i64 sb) (.int .i64 sc))
  clear k2 hb hD
  go_wp2_with fail
  refine bodyPost_ret (by simp [results, Tryz.results104, go_sem, r0, r1, r2]; try rfl) rfl ?_
  exact ⟨rfl, HK.out⟩
end En
end Go.Proofs.YtdokeddjcpnmiaaGreatDoor

/- The engine's control words: what is thrown, what is put aside (printed by wip/engfn.py). -/
namespace Go.Proofs.YtdokeddjcpnmiaaGreatDoor
open Go.RowKit
namespace En

set_option maxRecDepth 100000 in
set_option maxHeartbeats 1600000 in
theorem throws_sem {w : World} {g : Nat} {p : Lay} {F : List Nat} {m : M} (h : EngAt w g p F m) (hf : Fine m) : Calls Tryz.prog 107 #[.pointer (some ⟨g, 0, none⟩)] w fun R w' => R = .returned (stV (m.control 9).1) ∧ Keep w g p F (m.control 9).2 w' := by
  rw [show m.control 9 = (if m.S.st = [] then m.throw (-4) else M.done (m.S.st.getLastD 0, { m with S := { m.S with st := m.S.st.dropLast } })) from rfl]
  obtain ⟨z, hz⟩ : ∃ z, w.heap.size = z := ⟨_, rfl⟩
  have HS := Lib.hid (Start.box0 w h)
  have hE0 := h.touch HS.out.1.t (by simp)
  rw [hz] at HS
  have c7 := hE0.c7
  have hSt := hE0.stack_of
  by_cases h0 : m.S.st = []
  · rw [if_pos h0]
    have hTk := take_under hE0 1 (by rw [h0]; decide) (by decide)
    rw [show ((1 : Nat) : Int) = 1 from rfl] at hTk
    have HT := Lib.hid (fun (W : World) F1 (hW : EngAt W g p F1 m) => throw_sem hW hf (-4))
    obtain ⟨⟨⟨sa, sb, sc⟩, m'⟩, hq⟩ : ∃ q, m.throw (-4) = q := ⟨_, rfl⟩
    rw [hq] at HT ⊢
    have HE := Lib.hid hE0
    clear hq hE0 h hf h0
    go_enter Tryz.func107, Tryz.ntmps107
    go_upto_region 1 with fail
    clear hz
    generalize w.alloc (.cells #[.int .i64 0, .int .i64 0, .int .i64 0] 48) = W0 at *
    go_wp2_with fail
    refine hSt.mono ?_
    rintro _ _ ⟨rfl, rfl⟩
    clear hSt
    go_wp2_with fail
    refine hTk.mono ?_
    rintro _ _ ⟨rfl, rfl⟩
    have hT := HT.out _ _ HE.out
    clear hTk
    go_wp2_with fail
    refine hT.mono ?_
    rintro _ w2 ⟨rfl, k2⟩
    have hb := HS.out.1.blk k2
    obtain ⟨⟨e0, e1, e2⟩, g0, g1, g2⟩ := zeros_of hb
    obtain ⟨r0, r1, r2⟩ := three_read hb (.int .i64 sa) (.int .i64 sb) (.int .i64 sc)
    have HK := Lib.hid (HS.out.1.end_ k2 (.int .i64 sa) (.int .i64 sb) (.int .i64 sc))
    clear k2 hb hT
    go_wp2_with fail
    refine bodyPost_ret (by simp [results, Tryz.results107, go_sem, r0, r1, r2]; try rfl) rfl ?_
    exact ⟨rfl, HK.out⟩
  · rw [if_neg h0]
    obtain ⟨L0, x, hL⟩ : ∃ L0 x, m.S.st = L0 ++ [x] := ⟨m.S.st.dropLast, m.S.st.getLast h0, (List.dropLast_concat_getLast h0).symm⟩
    have hTk := take_eng hE0 1 (by rw [hL]; simp) hf.st
    have hpf := hf.stk (drop_le _ hf.st)
    have e1 : m.S.st.getLastD 0 = x := by rw [hL]; simp
    have e2 : m.S.st.drop (m.S.st.length - 1) = [x] := by rw [hL]; simp
    have e3 : m.S.st.take (m.S.st.length - 1) = m.S.st.dropLast := by rw [List.dropLast_eq_take]
    rw [e1]
    rw [e2, e3] at hTk
    obtain ⟨m1, hm1⟩ : ∃ m1 : M, m1 = { m with S := { m.S with st := m.S.st.dropLast } } := ⟨_, rfl⟩
    rw [← hm1] at hTk hpf ⊢
    rw [show ((1 : Nat) : Int) = 1 from rfl] at hTk
    have HD := Lib.hid (fun (W : World) F1 (hW : EngAt W g p F1 m1) => done_sem hW hpf x)
    obtain ⟨⟨⟨sa, sb, sc⟩, m'⟩, hq⟩ : ∃ q, M.done (x, m1) = q := ⟨_, rfl⟩
    rw [hq] at HD ⊢
    clear hq hE0 h hf h0 hL e1 e2 e3 hm1 hpf
    go_enter Tryz.func107, Tryz.ntmps107
    go_upto_region 1 with fail
    clear hz
    generalize w.alloc (.cells #[.int .i64 0, .int .i64 0, .int .i64 0] 48) = W0 at *
    go_wp2_with fail
    refine hSt.mono ?_
    rintro _ _ ⟨rfl, rfl⟩
    clear hSt
    go_wp2_with fail
    refine hTk.mono ?_
    rintro _ w1 ⟨lv, rfl, hown, hE1, t1⟩
    have hcs : CellsG w1 lv [x] := row_cellsG (base := W0.heap.size) hown
    obtain ⟨gg, c, rfl, hcell⟩ := hcs.get (by simp)
    have i0 : w1.cell? ⟨gg, 0, none⟩ = some (.int .i64 x) := hcell 0 (by simp)
    have hD := HD.out _ _ hE1
    have HK1 := Lib.hid t1
    clear hTk hown hE1 hcs hcell t1
    rw [show ([x] : List Int).length = 1 from rfl]
    go_wp2_with fail
    refine hD.mono ?_
    rintro _ w2 ⟨rfl, k2⟩
    have k2 := Keep.trans HK1.out (Sub.refl _ _) k2
    have hb := HS.out.1.blk k2
    obtain ⟨⟨e0, e1, e2⟩, g0, g1, g2⟩ := zeros_of hb
    obtain ⟨r0, r1, r2⟩ := three_read hb (.int .i64 sa) (.int .i64 sb) (.int .i64 sc)
    have HK := Lib.hid (HS.out.1.end_ k2 (.int .i64 sa) (.int .i64 sb) (.int .i64 sc))
    clear k2 hb hD
    go_wp2_with fail
    refine bodyPost_ret (by simp [results, Tryz.results107, go_sem, r0, r1, r2]; try rfl) rfl ?_
    exact ⟨rfl, HK.out⟩
theorem top_keep {w : World} {g : Nat} {p : Lay} {F : List Nat} {m : M} (h : EngAt w g p F m) (hfr : m.fr.length ≤ 128) : Calls Tryz.prog 21 #[.pointer (some ⟨p.f, 0, none⟩)] w fun e w' => ∃ a n c, e = .returned (.tuple #[.agg #[.int .i64 (topF m.fr).k, .int .i64 (topF m.fr).a, .int .i64 (topF m.fr).b, .int .i64 (topF m.fr).x, .int .i64 (topF m.fr).y, .slice a n c], .bool (decide (m.fr ≠ []))]) ∧ Keep w g p F m w' := by
  refine (top_eng h hfr).mono ?_
  rintro _ w1 ⟨⟨a, n, c, rfl⟩, t⟩
  exact ⟨a, n, c, rfl, (Keep.refl h).quiet t⟩
set_option maxRecDepth 100000 in
set_option maxHeartbeats 1600000 in
theorem copyR_sem {w : World} {g : Nat} {p : Lay} {F : List Nat} {m : M} (h : EngAt w g p F m) (hf : Fine m) : Calls Tryz.prog 101 #[.pointer (some ⟨g, 0, none⟩)] w fun R w' => R = .returned (stV (m.control 3).1) ∧ Keep w g p F (m.control 3).2 w' := by
  rw [show m.control 3 = (if (topF m.fr).k = 2 then M.done (m.push (topF m.fr).x) else m.throw (-6)) from rfl]
  obtain ⟨z, hz⟩ : ∃ z, w.heap.size = z := ⟨_, rfl⟩
  have HS := Lib.hid (Start.box0 w h)
  have hE0 := h.touch HS.out.1.t (by simp)
  rw [hz] at HS
  have hTp := top_keep hE0 hf.fr
  have c3 := hE0.c3
  obtain ⟨f, hft⟩ : ∃ f, topF m.fr = f := ⟨_, rfl⟩
  rw [hft] at hTp ⊢
  obtain ⟨ok, hok⟩ : ∃ ok, decide (m.fr ≠ []) = ok := ⟨_, rfl⟩
  rw [hok] at hTp
  clear hft hok
  by_cases h2 : f.k = 2
  · rw [if_pos h2]
    have h2' : (f.k != 2) = false := by simpa using h2
    obtain ⟨⟨pe, pm⟩, hp⟩ : ∃ q, m.push f.x = q := ⟨_, rfl⟩
    have hpf : Fine pm := by have := hf.push f.x; rw [hp] at this; exact this
    have HP := Lib.hid (fun (W : World) F1 (hW : EngAt W g p F1 m) => push_sem hW hf.st f.x)
    rw [hp] at HP ⊢
    have HD := Lib.hid (fun (W : World) F1 (hW : EngAt W g p F1 pm) => done_sem hW hpf pe)
    obtain ⟨⟨⟨sa, sb, sc⟩, m'⟩, hq⟩ : ∃ q, M.done (pe, pm) = q := ⟨_, rfl⟩
    rw [hq] at HD ⊢
    clear hq hp hpf hE0 h hf h2
    go_enter Tryz.func101, Tryz.ntmps101
    go_upto_region 1 with fail
    clear hz
    generalize w.alloc (.cells #[.int .i64 0, .int .i64 0, .int .i64 0] 48) = W0 at *
    go_wp2_with fail
    refine hTp.mono ?_
    rintro _ w1 ⟨ta, tn, tc, rfl, k1⟩
    have tY := (Touch.refl [] w1).alloc (.cells #[.int .i64 f.k, .int .i64 f.a, .int .i64 f.b, .int .i64 f.x, .int .i64 f.y, .slice ta tn tc] 45)
    have bY := Blk.new w1 45 #[.int .i64 f.k, .int .i64 f.a, .int .i64 f.b, .int .i64 f.x, .int .i64 f.y, .slice ta tn tc]
    obtain ⟨y, hy⟩ : ∃ y, w1.heap.size = y := ⟨_, rfl⟩
    rw [hy] at bY
    obtain ⟨F1, h1, n1⟩ := k1.open
    have hyF : y ∉ F1 := fun hx => by have := h1.lt y hx; omega
    have h2 := h1.touch tY (by simp)
    have HN := Lib.hid (fun (m2 : M) (W2 : World) (k : Keep (w1.alloc (.cells #[.int .i64 f.k, .int .i64 f.a, .int .i64 f.b, .int .i64 f.x, .int .i64 f.y, .slice ta tn tc] 45)) g p F1 m2 W2) => n1.out _ _ (k.pre tY))
    clear hTp k1 h1 n1 tY c3
    go_upto_region 2 with fail
    clear hy
    generalize w1.alloc (.cells #[.int .i64 f.k, .int .i64 f.a, .int .i64 f.b, .int .i64 f.x, .int .i64 f.y, .slice ta tn tc] 45) = w2 at *
    have y0 := bY.cell 0
    have y1 := bY.cell 1
    have y2 := bY.cell 2
    have y3 := bY.cell 3
    have hP := HP.out _ _ h2
    clear h2
    go_wp2_with fail
    refine hP.mono ?_
    rintro _ w3 ⟨rfl, k3⟩
    have k3 := HN.out _ _ k3
    obtain ⟨F3, h3, n3⟩ := k3.open
    have hD := HD.out _ _ h3
    clear hP k3 h3 HN y0 y1 y2 y3 bY
    go_wp2_with fail
    refine hD.mono ?_
    rintro _ w4 ⟨rfl, k4⟩
    have k4 := n3.out _ _ k4
    have hb := HS.out.1.blk k4
    obtain ⟨⟨e0, e1, e2⟩, g0, g1, g2⟩ := zeros_of hb
    obtain ⟨r0, r1, r2⟩ := three_read hb (.int .i64 sa) (.int .i64 sb) (.int .i64 sc)
    have HK := Lib.hid (HS.out.1.end_ k4 (.int .i64 sa) (.int .i64 sb) (.int .i64 sc))
    clear k4 hb hD
    go_wp2_with fail
    refine bodyPost_ret (by simp [results, Tryz.results101, go_sem, r0, r1, r2]; try rfl) rfl ?_
    exact ⟨rfl, HK.out⟩
  · rw [if_neg h2]
    have h2' : (f.k != 2) = true := by simpa using h2
    have HT := Lib.hid (fun (W : World) F1 (hW : EngAt W g p F1 m) => throw_sem hW hf (-6))
    obtain ⟨⟨⟨sa, sb, sc⟩, m'⟩, hq⟩ : ∃ q, m.throw (-6) = q := ⟨_, rfl⟩
    rw [hq] at HT ⊢
    clear hq hE0 h hf h2
    go_enter Tryz.func101, Tryz.ntmps101
    go_upto_region 1 with fail
    clear hz
    generalize w.alloc (.cells #[.int .i64 0, .int .i64 0, .int .i64 0] 48) = W0 at *
    go_wp2_with fail
    refine hTp.mono ?_
    rintro _ w1 ⟨ta, tn, tc, rfl, k1⟩
    have tY := (Touch.refl [] w1).alloc (.cells #[.int .i64 f.k, .int .i64 f.a, .int .i64 f.b, .int .i64 f.x, .int .i64 f.y, .slice ta tn tc] 45)
    have bY := Blk.new w1 45 #[.int .i64 f.k, .int .i64 f.a, .int .i64 f.b, .int .i64 f.x, .int .i64 f.y, .slice ta tn tc]
    obtain ⟨y, hy⟩ : ∃ y, w1.heap.size = y := ⟨_, rfl⟩
    rw [hy] at bY
    obtain ⟨F1, h1, n1⟩ := k1.open
    have hyF : y ∉ F1 := fun hx => by have := h1.lt y hx; omega
    have h2 := h1.touch tY (by simp)
    have HN := Lib.hid (fun (m2 : M) (W2 : World) (k : Keep (w1.alloc (.cells #[.int .i64 f.k, .int .i64 f.a, .int .i64 f.b, .int .i64 f.x, .int .i64 f.y, .slice ta tn tc] 45)) g p F1 m2 W2) => n1.out _ _ (k.pre tY))
    clear hTp k1 h1 n1 tY c3
    go_upto_region 2 with fail
    clear hy
    generalize w1.alloc (.cells #[.int .i64 f.k, .int .i64 f.a, .int .i64 f.b, .int .i64 f.x, .int .i64 f.y, .slice ta tn tc] 45) = w2 at *
    have y0 := bY.cell 0
    have y1 := bY.cell 1
    have y2 := bY.cell 2
    have y3 := bY.cell 3
    have hT := HT.out _ _ h2
    clear h2
    go_wp2_with fail
    refine hT.mono ?_
    rintro _ w3 ⟨rfl, k3⟩
    have k3 := HN.out _ _ k3
    have hb := HS.out.1.blk k3
    obtain ⟨⟨e0, e1, e2⟩, g0, g1, g2⟩ := zeros_of hb
    obtain ⟨r0, r1, r2⟩ := three_read hb (.int .i64 sa) (.int .i64 sb) (.int .i64 sc)
    have HK := Lib.hid (HS.out.1.end_ k3 (.int .i64 sa) (.int .i64 sb) (.int .i64 sc))
    clear k3 hb hT y0 y1 y2 y3 bY
    go_wp2_with fail
    refine bodyPost_ret (by simp [results, Tryz.results101, go_sem, r0, r1, r2]; try rfl) rfl ?_
    exact ⟨rfl, HK.out⟩
end En
end Go.Proofs.YtdokeddjcpnmiaaGreatDoor
