import Derived.Test.YtdokeddjcpnmiaaGreatDoorKEngD
import Derived.Test.YtdokeddjcpnmiaaGreatDoorJMapsA
/- The engine's catches; stack.Pop; the closure of a word that does (printed by wip/engfn.py). -/
namespace Go.Proofs.YtdokeddjcpnmiaaGreatDoor
open Go.RowKit
namespace En

theorem frDepth_eng {w : World} {g : Nat} {p : Lay} {F : List Nat} {m : M} (h : EngAt w g p F m) : Calls Tryz.prog 22 #[.pointer (some ⟨p.f, 0, none⟩)] w fun e w' => e = .returned (.int .i64 m.fr.length) ∧ w = w' := by
  obtain ⟨cv, ev, wv, Ff, FS, FI, h, rfl⟩ := h
  exact FDepth_any w p.f Ff m.fr h.fr
def catchDo (l : List Int) (m : M) : Int × M :=
  let r := m.named (l.getD 0 0)
  if r.1 ≠ 0 then r else if 126 < m.fr.length then (-5, { r.2 with nx := 0 }) else
    (0, { r.2 with fr := r.2.fr ++ [⟨1, m.df, m.on, 0, 0, []⟩, ⟨5, m.S.st.length, m.I.outer.length, m.I.cur.on, 0, []⟩], df := 0, on := 0 })
set_option maxRecDepth 100000 in
set_option maxHeartbeats 3200000 in
theorem catch_acts {w : World} {g : Nat} {p : Lay} {F : List Nat} {m : M} {b : Nat} (hb : Cap w F b g) (hw : m.words.length ≤ 1000000) (hfr : m.fr.length ≤ 128) : Acts w g p F m 1 140 #[] #[.pointer (some ⟨b, 0, none⟩)] catchDo := by
  intro W lv t hE hc hl
  obtain ⟨gg, c, rfl, hcell⟩ := hc.get (by rw [hl]; decide)
  rw [hl] at hcell ⊢
  have i0 := hcell 0 (by decide)
  have b0 := hb.at_ t
  have c3 := hE.c3
  show Calls Tryz.prog 140 #[.slice (some ⟨gg, 0, none⟩) 1 c, .pointer (some ⟨b, 0, none⟩)] W fun e w' => e = .returned (.int .i64 (catchDo (m.top 1) (m.taken 1)).1) ∧ Keep W g p F (catchDo (m.top 1) (m.taken 1)).2 w'
  obtain ⟨x0, hx0⟩ : ∃ x, (m.top 1).getD 0 0 = x := ⟨_, rfl⟩
  have hcd : catchDo (m.top 1) (m.taken 1) = (if ((m.taken 1).named x0).1 ≠ 0 then (m.taken 1).named x0 else if 126 < (m.taken 1).fr.length then (-5, { ((m.taken 1).named x0).2 with nx := 0 }) else
    (0, { ((m.taken 1).named x0).2 with fr := ((m.taken 1).named x0).2.fr ++ [⟨1, (m.taken 1).df, (m.taken 1).on, 0, 0, []⟩, ⟨5, (m.taken 1).S.st.length, (m.taken 1).I.outer.length, (m.taken 1).I.cur.on, 0, []⟩], df := 0, on := 0 })) := by unfold catchDo; rw [hx0]
  rw [hcd]
  rw [hx0] at i0
  clear hcd
  have hw1 : (m.taken 1).words.length ≤ 1000000 := hw
  have hfr1 : (m.taken 1).fr.length ≤ 128 := hfr
  obtain ⟨m1, hm1⟩ : ∃ m1, m.taken 1 = m1 := ⟨_, rfl⟩
  rw [hm1] at hE hw1 hfr1 ⊢
  have hP := named_sem (hE.touch (Touch.refl [] W).drew (by simp)) hw1 x0
  clear hm1 hx0 hcell hc hl hw hfr hw1
  have HB := Lib.hid (And.intro t hb)
  clear t hb
  cases hwd : m1.word x0 with
  | none =>
    have e1 : m1.named x0 = (-9, m1) := by unfold M.named; rw [hwd]
    rw [e1] at hP ⊢
    rw [if_pos (show (-9 : Int) ≠ 0 by decide)]
    dsimp only at hP ⊢
    clear hE hwd e1 hfr1
    go_enter Tryz.func140, Tryz.ntmps140
    go_wp2_with fail
    go_still_tail 4, (by kernel_rfl)
    change wpList _ _ _ _ _ W.drew
    go_wp2_with fail
    refine hP.mono ?_
    rintro _ w2 ⟨rfl, k2⟩
    have HK := Lib.hid (k2.pre (Touch.refl [] W).drew)
    clear k2 hP
    go_wp2_with fail
    go_ret
    exact ⟨rfl, HK.out⟩
  | some u =>
    have e1 : m1.named x0 = (0, { m1 with nx := x0 }) := by unfold M.named; rw [hwd]
    rw [e1] at hP ⊢
    rw [if_neg (show ¬ (0 : Int) ≠ 0 by decide)]
    dsimp only at hP ⊢
    obtain ⟨mA, hmA⟩ : ∃ mA : M, { m1 with nx := x0 } = mA := ⟨_, rfl⟩
    rw [hmA] at hP
    have ea : mA.fr = m1.fr ∧ mA.df = m1.df ∧ mA.on = m1.on ∧ mA.S = m1.S ∧ mA.I = m1.I := by rw [← hmA]; exact ⟨rfl, rfl, rfl, rfl, rfl⟩
    obtain ⟨a1, a2, a3, a4, a5⟩ := ea
    by_cases hd : 126 < m1.fr.length
    · rw [if_pos hd]
      have em : ({ m1 with nx := 0 } : M) = { mA with nx := 0 } := by rw [← hmA]
      rw [em]
      obtain ⟨d, hdd⟩ : ∃ d, m1.fr.length = d := ⟨_, rfl⟩
      rw [hdd] at hd hfr1
      have HA := Lib.hid (a1.symm ▸ hdd : mA.fr.length = d)
      clear hE hwd e1 hmA a1 a2 a3 a4 a5 em hdd
      go_enter Tryz.func140, Tryz.ntmps140
      go_wp2_with fail
      go_still_tail 4, (by kernel_rfl)
      change wpList _ _ _ _ _ W.drew
      go_wp2_with fail
      refine hP.mono ?_
      rintro _ w2 ⟨rfl, k2⟩
      have k2 := k2.pre (Touch.refl [] W).drew
      have b2 : w2.cell? ⟨b, 0, none⟩ = some (.pointer (some ⟨g, 0, none⟩)) := by
        obtain ⟨_, _, t2, _⟩ := k2
        exact HB.out.2.at_ (HB.out.1.trans t2 (fun x hx => .inl hx))
      obtain ⟨F2, h2, n2⟩ := k2.open
      have hDe := frDepth_eng h2
      rw [HA.out] at hDe
      have c3 := h2.c3
      have f6 := h2.z 6
      have c6 := h2.c6
      have HK := Lib.hid (n2.out _ _ (h2.setNext 0))
      clear k2 hP h2 n2 b0 i0
      go_wp2_with fail
      refine hDe.mono ?_
      rintro _ _ ⟨rfl, rfl⟩
      clear hDe
      go_wp2_with fail
      go_ret
      exact ⟨rfl, HK.out⟩
    · rw [if_neg hd]
      obtain ⟨d, hdd⟩ : ∃ d, m1.fr.length = d := ⟨_, rfl⟩
      rw [hdd] at hd hfr1
      obtain ⟨mB, hmB⟩ : ∃ mB : M, { mA with fr := mA.fr ++ [⟨1, m1.df, m1.on, 0, 0, []⟩] } = mB := ⟨_, rfl⟩
      obtain ⟨mC, hmC⟩ : ∃ mC : M, { mB with fr := mB.fr ++ [⟨5, m1.S.st.length, m1.I.outer.length, m1.I.cur.on, 0, []⟩] } = mC := ⟨_, rfl⟩
      have efin : ({ m1 with nx := x0, fr := m1.fr ++ [⟨1, m1.df, m1.on, 0, 0, []⟩, ⟨5, m1.S.st.length, m1.I.outer.length, m1.I.cur.on, 0, []⟩], df := 0, on := 0 } : M) = mC.place 0 0 := by
        rw [← hmC, ← hmB, ← hmA]
        unfold M.place
        simp only [List.append_assoc, List.cons_append, List.nil_append]
      have e7 : mA.pushFr ⟨1, m1.df, m1.on, 0, 0, []⟩ = (0, mB) := by unfold M.pushFr; rw [if_pos (by rw [a1, hdd]; omega), hmB]
      have e8 : mB.pushFr ⟨5, m1.S.st.length, m1.I.outer.length, m1.I.cur.on, 0, []⟩ = (0, mC) := by unfold M.pushFr; rw [if_pos (by rw [← hmB]; simp only [List.length_append, List.length_cons, List.length_nil]; rw [a1, hdd]; omega), hmC]
      have bS : mB.S = m1.S := by rw [← hmB]; exact a4
      have bI : mB.I = m1.I := by rw [← hmB]; exact a5
      rw [efin]
      have H7 := Lib.hid (fun (W W2 : World) F1 (hW : EngAt W g p F1 mA) (t : Touch [] W W2) => pushFr_eng hW ⟨1, m1.df, m1.on, 0, 0, []⟩ rfl W2 t)
      rw [e7] at H7
      have H8 := Lib.hid (fun (W W2 : World) F1 (hW : EngAt W g p F1 mB) (t : Touch [] W W2) => pushFr_eng hW ⟨5, m1.S.st.length, m1.I.outer.length, m1.I.cur.on, 0, []⟩ rfl W2 t)
      rw [e8] at H8
      unfold frA at H7 H8
      dsimp only at H7 H8
      have HA := Lib.hid (And.intro (a1.symm ▸ hdd : mA.fr.length = d) (And.intro a2 (And.intro a3 (And.intro bS bI))))
      clear hE hwd e1 hmA a1 a2 a3 a4 a5 efin e7 e8 bS bI hmB hmC hdd
      go_enter Tryz.func140, Tryz.ntmps140
      go_wp2_with fail
      go_still_tail 4, (by kernel_rfl)
      change wpList _ _ _ _ _ W.drew
      go_wp2_with fail
      refine hP.mono ?_
      rintro _ w2 ⟨rfl, k2⟩
      have k2 := k2.pre (Touch.refl [] W).drew
      have b2 : w2.cell? ⟨b, 0, none⟩ = some (.pointer (some ⟨g, 0, none⟩)) := by
        obtain ⟨_, _, t2, _⟩ := k2
        exact HB.out.2.at_ (HB.out.1.trans t2 (fun x hx => .inl hx))
      obtain ⟨F2, h2, n2⟩ := k2.open
      have hDe := frDepth_eng h2
      rw [HA.out.1] at hDe
      have c3 := h2.c3
      have c4 := h2.c4
      have c5 := h2.c5
      rw [HA.out.2.1] at c4
      rw [HA.out.2.2.1] at c5
      have hP7 := H7.out w2 w2.drew F2 h2 (Touch.refl [] w2).drew
      clear k2 hP h2 b0 i0
      go_wp2_with fail
      refine hDe.mono ?_
      rintro _ _ ⟨rfl, rfl⟩
      clear hDe
      go_upto_region 7 with fail
      go_still_tail 13, (by kernel_rfl)
      change wpList _ _ _ _ _ w2.drew
      go_wp2_with fail
      refine hP7.mono ?_
      rintro _ w3 ⟨rfl, k3⟩
      have k3 := n2.out _ _ k3
      have b3 : w3.cell? ⟨b, 0, none⟩ = some (.pointer (some ⟨g, 0, none⟩)) := by
        obtain ⟨_, _, t2, _⟩ := k3
        exact HB.out.2.at_ (HB.out.1.trans t2 (fun x hx => .inl hx))
      obtain ⟨F3, h3, n3⟩ := k3.open
      have h3d := h3.touch (Touch.refl [] w3).drew (by simp)
      have c3 := h3.c3
      have c7 := h3.c7
      have c8 := h3.c8
      have hS := h3d.stack_of
      have hSd := stDepth_eng h3d
      have hId := inDepth_eng h3d
      have hIn := inIn_eng h3d
      rw [HA.out.2.2.2.1] at hSd hS
      rw [HA.out.2.2.2.2] at hId hIn
      have hP8 := H8.out w3 w3.drew F3 h3 (Touch.refl [] w3).drew
      clear k3 hP7 h3 h3d b2 n2 c4 c5
      go_upto_region 8 with fail
      go_still_tail 21, (by kernel_rfl)
      still_call (still_left hS)
      still_call (still_left hSd)
      repeat still_step
      still_call (still_left hId)
      repeat still_step
      still_call (still_left hIn)
      repeat still_step
      refine wpStill_nil ?_
      change wpList _ _ _ _ _ w3.drew
      go_wp2_with fail
      refine hP8.mono ?_
      rintro _ w4 ⟨rfl, k4⟩
      have k4 := n3.out _ _ k4
      have b4 : w4.cell? ⟨b, 0, none⟩ = some (.pointer (some ⟨g, 0, none⟩)) := by
        obtain ⟨_, _, t2, _⟩ := k4
        exact HB.out.2.at_ (HB.out.1.trans t2 (fun x hx => .inl hx))
      obtain ⟨F4, h4, n4⟩ := k4.open
      have hPl := place_sem h4 0 0
      clear k4 hP8 h4 b3 n3 c3 c7 c8 hS hSd hId hIn
      go_wp2_with fail
      refine hPl.mono ?_
      rintro _ w5 ⟨rfl, k5⟩
      have HK := Lib.hid (n4.out _ _ k5)
      clear hPl k5
      go_wp2_with fail
      go_ret
      exact ⟨rfl, HK.out⟩
end En
end Go.Proofs.YtdokeddjcpnmiaaGreatDoor

/- The engine's catches; stack.Pop; the closure of a word that does (printed by wip/engfn.py). -/
namespace Go.Proofs.YtdokeddjcpnmiaaGreatDoor
open Go.RowKit
namespace En

theorem catchDo_fine (l : List Int) {m : M} (h' : Fine m) : Fine (catchDo l m).2 := by
  unfold catchDo
  dsimp only
  have h1 := h'.named (l.getD 0 0)
  have e1 : (m.named (l.getD 0 0)).2.fr = m.fr := by unfold M.named; split <;> rfl
  generalize m.named (l.getD 0 0) = r at h1 e1
  split
  · exact h1
  · split
    · exact h1.at_ _ _ 0
    · exact (h1.frs (L := r.2.fr ++ [⟨1, m.df, m.on, 0, 0, []⟩, ⟨5, m.S.st.length, m.I.outer.length, m.I.cur.on, 0, []⟩]) (by rw [e1, List.length_append]; simp; omega)).at_ 0 0 _
theorem catchDo_S (l : List Int) (m : M) : (catchDo l m).2.S = m.S := by
  unfold catchDo
  dsimp only
  have e1 := named_S m (l.getD 0 0)
  generalize m.named (l.getD 0 0) = r at e1
  split
  · exact e1
  · split <;> exact e1
set_option maxRecDepth 100000 in
set_option maxHeartbeats 1600000 in
theorem catches_sem {w : World} {g : Nat} {p : Lay} {F : List Nat} {m : M} (h : EngAt w g p F m) (hf : Fine m) : Calls Tryz.prog 106 #[.pointer (some ⟨g, 0, none⟩)] w fun R w' => R = .returned (stV (m.control 8).1) ∧ Keep w g p F (m.control 8).2 w' := by
  obtain ⟨do_, hdo⟩ : ∃ do_ : List Int → M → Int × M, do_ = (catchDo) := ⟨_, rfl⟩
  have hc : m.control 8 = m.with_ 1 do_ := by rw [hdo]; rfl
  rw [hc]
  clear hc
  obtain ⟨z, hz⟩ : ∃ z, w.heap.size = z := ⟨_, rfl⟩
  have HS := Lib.hid (Start.box1 w h)
  have hE0 := h.touch HS.out.1.t (by simp)
  rw [hz] at HS
  have hT := with_sem hE0 hf 1 (by decide) 140 #[] #[.pointer (some ⟨z, 0, none⟩)] do_ (enters_of Tryz.func140 (by kernel_rfl) rfl) (by rw [hdo]; exact catch_acts HS.out.2 hf.words hf.fr) (fun hn => by rw [hdo]; exact catchDo_fine _ (taken_fine hf 1)) (fun hn hr => by rw [hdo] at hr ⊢; exact by rw [catchDo_S]; exact taken_room hf hn)
  have b0 := HS.out.2.at_ (Touch.refl F _)
  rw [show ((1 : Nat) : Int) = 1 from rfl] at hT
  obtain ⟨⟨⟨sa, sb, sc⟩, m'⟩, hq⟩ : ∃ q, m.with_ 1 do_ = q := ⟨_, rfl⟩
  rw [hq] at hT ⊢
  dsimp only at hT ⊢
  clear hq
  clear hdo hE0 h hf
  go_enter Tryz.func106, Tryz.ntmps106
  go_upto_region 1 with fail
  clear hz
  generalize (w.alloc (.cells #[.pointer (some ⟨g, 0, none⟩)] 27)).alloc (.cells #[.int .i64 0, .int .i64 0, .int .i64 0] 48) = W0 at *
  go_wp2_with fail
  refine hT.mono ?_
  rintro _ w1 ⟨rfl, k1⟩
  have hb := HS.out.1.blk k1
  obtain ⟨⟨e0, e1, e2⟩, g0, g1, g2⟩ := zeros_of hb
  obtain ⟨r0, r1, r2⟩ := three_read hb (.int .i64 sa) (.int .i64 sb) (.int .i64 sc)
  have HK := Lib.hid (HS.out.1.end_ k1 (.int .i64 sa) (.int .i64 sb) (.int .i64 sc))
  clear k1 hb hT b0
  go_wp2_with fail
  refine bodyPost_ret (by simp [results, Tryz.results106, go_sem, r0, r1, r2]; try rfl) rfl ?_
  exact ⟨rfl, HK.out⟩
set_option maxHeartbeats 1600000 in
theorem spop_eng {w : World} {g : Nat} {p : Lay} {F : List Nat} {m : M} (h : EngAt w g p F m) (hs : m.S.st.length ≤ 128) (h0 : m.S.st ≠ []) : Calls Tryz.prog 69 #[.pointer (some ⟨m.S.k, 0, none⟩)] w fun e w' =>
    e = .returned (.tuple #[.int .i64 (m.S.st.getLastD 0), .int .i64 0]) ∧ Keep w g p F { m with S := { m.S with st := m.S.st.dropLast } } w' := by
  obtain ⟨L0, x, hL⟩ : ∃ L0 x, m.S.st = L0 ++ [x] := ⟨m.S.st.dropLast, m.S.st.getLast h0, (List.dropLast_concat_getLast h0).symm⟩
  have hTk := take_eng h 1 (by rw [hL]; simp) hs
  have e1 : m.S.st.getLastD 0 = x := by rw [hL]; simp
  have e2 : m.S.st.drop (m.S.st.length - 1) = [x] := by rw [hL]; simp
  have e3 : m.S.st.take (m.S.st.length - 1) = m.S.st.dropLast := by rw [List.dropLast_eq_take]
  rw [e1]
  rw [e2, e3] at hTk
  rw [show ((1 : Nat) : Int) = 1 from rfl] at hTk
  obtain ⟨m1, hm1⟩ : ∃ m1 : M, { m with S := { m.S with st := m.S.st.dropLast } } = m1 := ⟨_, rfl⟩
  rw [hm1] at hTk ⊢
  clear h h0 hL e1 e2 e3 hm1 hs
  go_enter Tryz.func69, Tryz.ntmps69
  go_wp2_with fail
  refine hTk.mono ?_
  rintro _ w1 ⟨lv, rfl, hown, hE1, t1⟩
  have hcs : CellsG w1 lv [x] := row_cellsG (base := w.heap.size) hown
  obtain ⟨gg, c, rfl, hcell⟩ := hcs.get (by simp)
  have i0 : w1.cell? ⟨gg, 0, none⟩ = some (.int .i64 x) := hcell 0 (by simp)
  have HK : Hid (Keep w g p F m1 w1) := Lib.hid ⟨F, hE1, t1, Sub.refl _ _⟩
  rw [show ([x] : List Int).length = 1 from rfl]
  clear hTk hown hE1 hcs hcell t1
  go_wp2_with fail
  go_ret2
  exact ⟨rfl, HK.out⟩
/-- what a closure holds: a word -/
structure CapW (w : World) (F : List Nat) (b : Nat) (k n v : Int) : Prop where
  blk : Blk w b 35 #[.int .i64 k, .int .i64 n, .int .i64 v]
  off : b ∉ F
theorem CapW.at_ {w W : World} {F : List Nat} {b : Nat} {k n v : Int} (h : CapW w F b k n v) (t : Touch F w W) : W.cell? ⟨b, 0, none⟩ = some (.int .i64 k) ∧ W.cell? ⟨b, 1, none⟩ = some (.int .i64 n) ∧ W.cell? ⟨b, 2, none⟩ = some (.int .i64 v) := ⟨(h.blk.touch t h.off).cell 0, (h.blk.touch t h.off).cell 1, (h.blk.touch t h.off).cell 2⟩
def doesDo (n : Int) (_l : List Int) (m : M) : Int × M := ((m.call n).1, if (m.call n).1 = 0 then (m.call n).2 else { (m.call n).2 with S := { (m.call n).2.S with st := (m.call n).2.S.st.dropLast } })
theorem call_err {m : M} {n : Int} (h : (m.call n).1 ≠ 0) : (m.call n).2 = m := by
  unfold M.call at h ⊢
  split
  · rfl
  · rename_i h1
    rw [if_neg h1] at h
    dsimp only at h ⊢
    unfold M.pushFr at h ⊢
    split
    · rename_i h2
      exact absurd rfl (by rw [if_pos h2] at h; exact h)
    · rfl
set_option maxHeartbeats 1600000 in
theorem does_acts {w : World} {g : Nat} {p : Lay} {F : List Nat} {m : M} {b bw : Nat} {k n v : Int} (hb : Cap w F b g) (hx : CapW w F bw k n v) (hs : m.S.st.length ≤ 128) (h0 : m.S.st ≠ []) : Acts w g p F m 0 68 #[] #[.pointer (some ⟨b, 0, none⟩), .pointer (some ⟨bw, 0, none⟩)] (doesDo n) := by
  intro W lv t hE hc hl
  have b0 := hb.at_ t
  obtain ⟨q0, q1, q2⟩ := hx.at_ t
  have et : m.taken 0 = m := by unfold M.taken; rw [Nat.sub_zero, List.take_length]
  rw [et] at hE ⊢
  show Calls Tryz.prog 68 #[lv, .pointer (some ⟨b, 0, none⟩), .pointer (some ⟨bw, 0, none⟩)] W fun e w' => e = .returned (.int .i64 (doesDo n (m.top 0) m).1) ∧ Keep W g p F (doesDo n (m.top 0) m).2 w'
  have hC := call_sem hE n
  have HB := Lib.hid (And.intro t hb)
  unfold doesDo
  by_cases hq : (m.call n).1 = 0
  · rw [hq, if_pos rfl]
    rw [hq] at hC
    clear hE hc hl t hb hx et hq
    go_enter Tryz.func68, Tryz.ntmps68
    go_wp2_with fail
    refine hC.mono ?_
    rintro _ w2 ⟨rfl, k2⟩
    have HK := Lib.hid k2
    clear k2 hC
    go_wp2_with fail
    go_ret
    exact ⟨rfl, HK.out⟩
  · rw [if_neg hq, call_err hq]
    rw [call_err hq] at hC
    obtain ⟨e, he⟩ : ∃ e, (m.call n).1 = e := ⟨_, rfl⟩
    rw [he] at hC hq ⊢
    have hq' : (e == 0) = false := by simpa using hq
    have HP := Lib.hid (fun (W : World) F1 (hW : EngAt W g p F1 m) => spop_eng hW hs h0)
    clear hE hc hl t hb hx et hq he
    go_enter Tryz.func68, Tryz.ntmps68
    go_wp2_with fail
    refine hC.mono ?_
    rintro _ w2 ⟨rfl, k2⟩
    have b2 : w2.cell? ⟨b, 0, none⟩ = some (.pointer (some ⟨g, 0, none⟩)) := by
      obtain ⟨_, _, t2, _⟩ := k2
      exact HB.out.2.at_ (HB.out.1.trans t2 (fun x hx => .inl hx))
    obtain ⟨F2, h2, n2⟩ := k2.open
    have c7 := h2.c7
    have hS := h2.stack_of
    have hP := HP.out _ _ h2
    clear k2 hC h2
    go_wp2_with fail
    refine hS.mono ?_
    rintro _ _ ⟨rfl, rfl⟩
    clear hS
    go_wp2_with fail
    refine hP.mono ?_
    rintro _ w3 ⟨rfl, k3⟩
    have HK := Lib.hid (n2.out _ _ k3)
    clear hP k3
    go_wp2_with fail
    go_ret
    exact ⟨rfl, HK.out⟩
end En
end Go.Proofs.YtdokeddjcpnmiaaGreatDoor

/- The engine's controls; instructions of two calls (printed by wip/engfn.py). -/
namespace Go.Proofs.YtdokeddjcpnmiaaGreatDoor
open Go.RowKit
namespace En

def ctlL (g : Nat) : List (Int × Value) := [(1, .func (.func 99) #[.pointer (some ⟨g, 0, none⟩)] #[]), (2, .func (.func 100) #[.pointer (some ⟨g, 0, none⟩)] #[]), (3, .func (.func 101) #[.pointer (some ⟨g, 0, none⟩)] #[]), (4, .func (.func 102) #[.pointer (some ⟨g, 0, none⟩)] #[]), (5, .func (.func 103) #[.pointer (some ⟨g, 0, none⟩)] #[]), (6, .func (.func 104) #[.pointer (some ⟨g, 0, none⟩)] #[]), (7, .func (.func 105) #[.pointer (some ⟨g, 0, none⟩)] #[]), (8, .func (.func 106) #[.pointer (some ⟨g, 0, none⟩)] #[]), (9, .func (.func 107) #[.pointer (some ⟨g, 0, none⟩)] #[])]
set_option maxRecDepth 100000 in
set_option maxHeartbeats 4000000 in
theorem controls_any (w : World) (g : Nat) : Calls Tryz.prog 71 #[.pointer (some ⟨g, 0, none⟩)] w fun e w' => ∃ b, e = .returned (.map (some b)) ∧ IMap w' b (ctlL g) ∧ Touch [] w w' := by
  have tall := (Touch.refl [] w).alloc (.map #[] 0)
  have i0 := IMap.new w
  have hmm := @run_makeMap Tryz.prog
  have hmf : ∀ (fn : Fn) (first cap : Array Value) (w : World), (Instr.makeFunc fn first cap).run Tryz.prog w = .ok (.func fn first cap) w := fun _ _ _ _ => rfl
  go_enter Tryz.func71, Tryz.ntmps71
  go_wp2_with (refine wpList_iins _ rfl _ _ _ 133 rfl _ _ Tryz.underlying133 Tryz.underlying3 w.heap.size _ rfl (by first | assumption | exact i0) _ rfl _ rfl ?_; intro wn hn tn; have tall := tall.trans tn (by simp))
  clear hmm
  go_ret
  refine ⟨w.heap.size, rfl, ?_, tall⟩
  exact hn
end En
end Go.Proofs.YtdokeddjcpnmiaaGreatDoor
