import Derived.Test.YtdokeddjcpnmiaaGreatDoorKEngK
import Derived.Test.YtdokeddjcpnmiaaGreatDoorKFLoc2
/- Instructions that hold, tell and set locals. -/
namespace Go.Proofs.YtdokeddjcpnmiaaGreatDoor
open Go.RowKit
namespace En

section
variable {w : World} {g : Nat} {p : Lay} {F : List Nat} {m : M}
theorem pushLoc_eng (h : EngAt w g p F m) (f : Fr) (v : Value) (hk : f.k = 4) (hl : f.l.length ≤ 1000) (W : World) (t : Touch [] w W) (hr : LocIn W v f.l) :
    Calls Tryz.prog 18 #[.pointer (some ⟨p.f, 0, none⟩), .agg #[.int .i64 f.k, .int .i64 f.a, .int .i64 f.b, .int .i64 f.x, .int .i64 f.y, v]] W fun e w' => e = .returned (.int .i64 (m.pushFr f).1) ∧ Keep w g p F (m.pushFr f).2 w' := by
  obtain ⟨cv, ev, wv, Ff, FS, FI, h, rfl⟩ := h
  exact pushLoc_sem h f v hk hl W t hr
theorem local_eng (h : EngAt w g p F m) (hfr : m.fr.length ≤ 128) (i : Int) : Calls Tryz.prog 115 #[.pointer (some ⟨p.f, 0, none⟩), .int .i64 i] w fun e w' => e = .returned (.tuple #[.int .i64 (localV m.fr i).1, .int .i64 (localV m.fr i).2]) ∧ Touch [] w w' := by
  obtain ⟨cv, ev, wv, Ff, FS, FI, h, rfl⟩ := h
  exact FLocal_any w p.f Ff m.fr h.fr (by omega) i
theorem setLocal_eng (h : EngAt w g p F m) (hfr : m.fr.length ≤ 128) (i x : Int) : Calls Tryz.prog 117 #[.pointer (some ⟨p.f, 0, none⟩), .int .i64 i, .int .i64 x] w fun e w' => e = .returned (.int .i64 (setL m.fr i x).1) ∧ Keep w g p F { m with fr := (setL m.fr i x).2 } w' := by
  obtain ⟨cv, ev, wv, Ff, FS, FI, h, rfl⟩ := h
  refine (FSetLocal_any w p.f Ff m.fr h.fr (by omega) i x).mono ?_
  rintro _ w1 ⟨rfl, h1, t1⟩
  exact ⟨rfl, h.frs h1 t1 (Sub.refl _ _)⟩
def setLM (m : M) (a x : Int) : Int × M := ((setL m.fr a x).1, { m with fr := (setL m.fr a x).2 })
theorem setLM_eq (m : M) (a x : Int) : (match locals m.fr.reverse with
    | none => ((-6 : Int), m)
    | some i => if 0 ≤ a ∧ a < (m.fr.getD i .none).l.length then (0, { m with fr := m.fr.set i { m.fr.getD i .none with l := (m.fr.getD i .none).l.set a.toNat x } }) else (-6, m)) = setLM m a x := by
  unfold setLM setL localN
  cases locals m.fr.reverse with
  | none => rfl
  | some i =>
    dsimp only
    by_cases h : 0 ≤ a ∧ a < ((m.fr.getD i .none).l.length : Int)
    · rw [if_pos h, if_pos h]
    · rw [if_neg h, if_neg h]
theorem localV_eq (m : M) (a : Int) : (match locals m.fr.reverse with
    | none => m.throw (-6)
    | some i => if 0 ≤ a ∧ a < (m.fr.getD i .none).l.length then M.done (m.push ((m.fr.getD i .none).l.getD a.toNat 0)) else m.throw (-6)) = (if (localV m.fr a).2 = 0 then M.done (m.push (localV m.fr a).1) else M.done ((localV m.fr a).2, m)) := by
  have e6 : M.done ((-6 : Int), m) = m.throw (-6) := if_neg (show ¬ ((-6 : Int) = 0) by decide)
  have hl : (match locals m.fr.reverse with
    | none => m.throw (-6)
    | some i => if 0 ≤ a ∧ a < ((m.fr.getD i .none).l.length : Int) then M.done (m.push ((m.fr.getD i .none).l.getD a.toNat 0)) else m.throw (-6)) = (match localN m.fr a with | none => m.throw (-6) | some i => M.done (m.push ((m.fr.getD i .none).l.getD a.toNat 0))) := by
    unfold localN
    cases locals m.fr.reverse with
    | none => rfl
    | some i =>
      dsimp only
      by_cases h : 0 ≤ a ∧ a < ((m.fr.getD i .none).l.length : Int)
      · rw [if_pos h, if_pos h]
      · rw [if_neg h, if_neg h]
  rw [hl]
  unfold localV
  cases localN m.fr a with
  | none =>
    show m.throw (-6) = if (-6 : Int) = 0 then _ else M.done ((-6 : Int), m)
    rw [if_neg (by decide), e6]
  | some i => rfl
set_option maxRecDepth 100000 in
set_option maxHeartbeats 1600000 in
theorem locals_acts {b : Nat} (hb : Cap w F b g) (n : Nat) (hn : n ≤ 1000) : Acts w g p F m n 114 #[] #[.pointer (some ⟨b, 0, none⟩)] (fun l m => m.pushFr ⟨4, 0, 0, 0, 0, l⟩) := by
  intro W lv t hE hc hl
  obtain ⟨la, lc, rfl⟩ : ∃ a c, lv = .slice a (m.top n).length c := LocIn.form hc
  have b0 := hb.at_ t
  have c3 := hE.c3
  show Calls Tryz.prog 114 #[.slice la (m.top n).length lc, .pointer (some ⟨b, 0, none⟩)] W fun e w' => e = .returned (.int .i64 ((m.taken n).pushFr ⟨4, 0, 0, 0, 0, m.top n⟩).1) ∧ Keep W g p F ((m.taken n).pushFr ⟨4, 0, 0, 0, 0, m.top n⟩).2 w'
  obtain ⟨m1, hm1⟩ : ∃ m1, m.taken n = m1 := ⟨_, rfl⟩
  rw [hm1] at hE ⊢
  obtain ⟨l, hll⟩ : ∃ l, m.top n = l := ⟨_, rfl⟩
  rw [hll] at hc hl ⊢
  have hP := pushLoc_eng hE ⟨4, 0, 0, 0, 0, l⟩ (.slice la l.length lc) rfl (by show l.length ≤ 1000; omega) W (Touch.refl [] W) hc
  dsimp only at hP
  obtain ⟨ln, hln⟩ : ∃ ln, l.length = ln := ⟨_, rfl⟩
  rw [hln] at hP ⊢
  obtain ⟨⟨re, m2⟩, hr⟩ : ∃ q, m1.pushFr ⟨4, 0, 0, 0, 0, l⟩ = q := ⟨_, rfl⟩
  rw [hr] at hP ⊢
  clear hm1 hc hl t hb hE hll hln hr
  go_enter Tryz.func114, Tryz.ntmps114
  go_wp2_with fail
  refine hP.mono ?_
  rintro _ w2 ⟨rfl, k2⟩
  have HK := Lib.hid k2
  clear k2 hP
  go_wp2_with fail
  go_ret
  exact ⟨rfl, HK.out⟩
set_option maxRecDepth 100000 in
set_option maxHeartbeats 1600000 in
theorem set_acts {b : Nat} (hb : Cap w F b g) {bx : Nat} {op a v : Int} (hx : CapX w F bx op a v) (hfr : m.fr.length ≤ 128) : Acts w g p F m 1 116 #[] #[.pointer (some ⟨b, 0, none⟩), .pointer (some ⟨bx, 0, none⟩)] (fun l m => setLM m a (l.getD 0 0)) := by
  intro W lv t hE hc hl
  obtain ⟨gg, c, rfl, hcell⟩ := hc.get (by rw [hl]; decide)
  rw [hl] at hcell ⊢
  have i0 := hcell 0 (by decide)
  have b0 := hb.at_ t
  obtain ⟨q0, q1, q2⟩ := hx.at_ t
  have c3 := hE.c3
  show Calls Tryz.prog 116 #[.slice (some ⟨gg, 0, none⟩) 1 c, .pointer (some ⟨b, 0, none⟩), .pointer (some ⟨bx, 0, none⟩)] W fun e w' => e = .returned (.int .i64 (setLM (m.taken 1) a ((m.top 1).getD 0 0)).1) ∧ Keep W g p F (setLM (m.taken 1) a ((m.top 1).getD 0 0)).2 w'
  obtain ⟨m1, hm1⟩ : ∃ m1, m.taken 1 = m1 := ⟨_, rfl⟩
  rw [hm1] at hE ⊢
  obtain ⟨x0, hx0⟩ : ∃ x, (m.top 1).getD 0 0 = x := ⟨_, rfl⟩
  rw [hx0] at i0
  try rw [hx0]
  have HM := Lib.hid hm1
  clear hm1 hx0 hcell hc hl t hb hx
  have hP := setLocal_eng (hE.touch (Touch.refl [] W).drew (by simp)) (by rw [← HM.out]; exact hfr) a x0
  unfold setLM
  obtain ⟨⟨re, L2⟩, hr⟩ : ∃ q, setL m1.fr a x0 = q := ⟨_, rfl⟩
  rw [hr] at hP ⊢
  dsimp only at hP ⊢
  clear hE hr
  go_enter Tryz.func116, Tryz.ntmps116
  go_wp2_with fail
  go_still_tail 9, (by kernel_rfl)
  change wpList _ _ _ _ _ W.drew
  go_wp2_with fail
  refine hP.mono ?_
  rintro _ w2 ⟨rfl, k2⟩
  have HK := Lib.hid (k2.pre (Touch.refl [] W).drew)
  clear k2 hP
  go_wp2_with fail
  go_ret
  exact ⟨rfl, HK.out⟩
end
theorem setL_len (L : List Fr) (a x : Int) : (setL L a x).2.length = L.length := by
  unfold setL
  cases localN L a with
  | none => rfl
  | some j => exact List.length_set
set_option maxRecDepth 100000 in
set_option maxHeartbeats 3200000 in
theorem holds_locals_sem {w : World} {g : Nat} {p : Lay} {F : List Nat} {m : M} (h : EngAt w g p F m) (hf : Fine m) (n : Nat) (hn : n ≤ 1000) (v : Int) : Calls Tryz.prog 87 #[.pointer (some ⟨g, 0, none⟩), .agg #[.int .u8 12, .int .i64 n, .int .i64 v]] w fun R w' => R = .returned (stV (m.with_ n (fun l m => m.pushFr ⟨4, 0, 0, 0, 0, l⟩)).1) ∧ Keep w g p F (m.with_ n (fun l m => m.pushFr ⟨4, 0, 0, 0, 0, l⟩)).2 w' := by
  obtain ⟨do_, hdo⟩ : ∃ do_ : List Int → M → Int × M, do_ = (fun l m => m.pushFr ⟨4, 0, 0, 0, 0, l⟩) := ⟨_, rfl⟩
  rw [← hdo]
  obtain ⟨z, hz⟩ : ∃ z, w.heap.size = z := ⟨_, rfl⟩
  have HS := Lib.hid (Start.box2 w h 12 n v)
  have hE0 := h.touch HS.out.1.t (by simp)
  rw [hz] at HS
  have b0 := HS.out.2.1.at_ (Touch.refl F _)
  obtain ⟨q0, q1, q2⟩ := HS.out.2.2.at_ (Touch.refl F _)
  have hT := with_sem hE0 hf n (by omega) 114 #[] #[.pointer (some ⟨z, 0, none⟩)] do_ (enters_of Tryz.func114 (by kernel_rfl) rfl) (by rw [hdo]; exact locals_acts HS.out.2.1 n hn) (fun hge => by rw [hdo]; exact (taken_fine hf n).pushFr _) (fun hge hr => by
    rw [hdo]
    show ((m.taken n).pushFr _).2.S.st.length + n ≤ 128
    rw [pushFr_S, taken_len hge]
    have := hf.st
    omega)
  obtain ⟨⟨⟨sa, sb, sc⟩, m'⟩, hq⟩ : ∃ q, m.with_ n do_ = q := ⟨_, rfl⟩
  rw [hq] at hT ⊢
  dsimp only at hT ⊢
  clear hq
  clear hdo hE0 h hf
  go_enter Tryz.func87, Tryz.ntmps87
  go_upto_region 1 with fail
  clear hz
  generalize ((w.alloc (.cells #[.pointer (some ⟨g, 0, none⟩)] 27)).alloc (.cells #[.int .u8 12, .int .i64 n, .int .i64 v] 56)).alloc (.cells #[.int .i64 0, .int .i64 0, .int .i64 0] 48) = W0 at *
  go_wp2_with fail
  refine hT.mono ?_
  rintro _ w1 ⟨rfl, k1⟩
  have hb := HS.out.1.blk k1
  obtain ⟨⟨e0, e1, e2⟩, g0, g1, g2⟩ := zeros_of hb
  obtain ⟨r0, r1, r2⟩ := three_read hb (.int .i64 sa) (.int .i64 sb) (.int .i64 sc)
  have HK := Lib.hid (HS.out.1.end_ k1 (.int .i64 sa) (.int .i64 sb) (.int .i64 sc))
  clear k1 hb hT b0 q0 q1 q2
  go_wp2_with fail
  refine bodyPost_ret (by simp [results, Tryz.results87, go_sem, r0, r1, r2]; try rfl) rfl ?_
  exact ⟨rfl, HK.out⟩
set_option maxRecDepth 100000 in
set_option maxHeartbeats 3200000 in
theorem holds_to_sem {w : World} {g : Nat} {p : Lay} {F : List Nat} {m : M} (h : EngAt w g p F m) (hf : Fine m) (a v : Int) : Calls Tryz.prog 87 #[.pointer (some ⟨g, 0, none⟩), .agg #[.int .u8 14, .int .i64 a, .int .i64 v]] w fun R w' => R = .returned (stV (m.with_ 1 (fun l m => setLM m a (l.getD 0 0))).1) ∧ Keep w g p F (m.with_ 1 (fun l m => setLM m a (l.getD 0 0))).2 w' := by
  obtain ⟨do_, hdo⟩ : ∃ do_ : List Int → M → Int × M, do_ = (fun l m => setLM m a (l.getD 0 0)) := ⟨_, rfl⟩
  rw [← hdo]
  obtain ⟨z, hz⟩ : ∃ z, w.heap.size = z := ⟨_, rfl⟩
  have HS := Lib.hid (Start.box2 w h 14 a v)
  have hE0 := h.touch HS.out.1.t (by simp)
  rw [hz] at HS
  have b0 := HS.out.2.1.at_ (Touch.refl F _)
  obtain ⟨q0, q1, q2⟩ := HS.out.2.2.at_ (Touch.refl F _)
  have hT := with_sem hE0 hf 1 (by decide) 116 #[] #[.pointer (some ⟨z, 0, none⟩), .pointer (some ⟨z + 1, 0, none⟩)] do_ (enters_of Tryz.func116 (by kernel_rfl) rfl) (by rw [hdo]; exact set_acts HS.out.2.1 HS.out.2.2 hf.fr) (fun hn => by rw [hdo]; exact (taken_fine hf 1).frs (by rw [setL_len]; exact hf.fr)) (fun hn hr => by
    rw [hdo]
    show ((m.taken 1).S.st.length) + 1 ≤ 128
    rw [taken_len hn]
    have := hf.st
    omega)
  rw [show ((1 : Nat) : Int) = 1 from rfl] at hT
  obtain ⟨⟨⟨sa, sb, sc⟩, m'⟩, hq⟩ : ∃ q, m.with_ 1 do_ = q := ⟨_, rfl⟩
  rw [hq] at hT ⊢
  dsimp only at hT ⊢
  clear hq
  clear hdo hE0 h hf
  go_enter Tryz.func87, Tryz.ntmps87
  go_upto_region 1 with fail
  clear hz
  generalize ((w.alloc (.cells #[.pointer (some ⟨g, 0, none⟩)] 27)).alloc (.cells #[.int .u8 14, .int .i64 a, .int .i64 v] 56)).alloc (.cells #[.int .i64 0, .int .i64 0, .int .i64 0] 48) = W0 at *
  go_wp2_with fail
  refine hT.mono ?_
  rintro _ w1 ⟨rfl, k1⟩
  have hb := HS.out.1.blk k1
  obtain ⟨⟨e0, e1, e2⟩, g0, g1, g2⟩ := zeros_of hb
  obtain ⟨r0, r1, r2⟩ := three_read hb (.int .i64 sa) (.int .i64 sb) (.int .i64 sc)
  have HK := Lib.hid (HS.out.1.end_ k1 (.int .i64 sa) (.int .i64 sb) (.int .i64 sc))
  clear k1 hb hT b0 q0 q1 q2
  go_wp2_with fail
  refine bodyPost_ret (by simp [results, Tryz.results87, go_sem, r0, r1, r2]; try rfl) rfl ?_
  exact ⟨rfl, HK.out⟩
set_option maxRecDepth 100000 in
set_option maxHeartbeats 3200000 in
theorem holds_local_sem {w : World} {g : Nat} {p : Lay} {F : List Nat} {m : M} (h : EngAt w g p F m) (hf : Fine m) (a v : Int) (q : St × M) (hq0 : q = (if (localV m.fr a).2 = 0 then M.done (m.push (localV m.fr a).1) else M.done ((localV m.fr a).2, m))) : Calls Tryz.prog 87 #[.pointer (some ⟨g, 0, none⟩), .agg #[.int .u8 13, .int .i64 a, .int .i64 v]] w fun R w' => R = .returned (stV q.1) ∧ Keep w g p F q.2 w' := by
  obtain ⟨z, hz⟩ : ∃ z, w.heap.size = z := ⟨_, rfl⟩
  have HS := Lib.hid (Start.box2 w h 13 a v)
  have hE0 := h.touch HS.out.1.t (by simp)
  rw [hz] at HS
  have b0 := HS.out.2.1.at_ (Touch.refl F _)
  obtain ⟨q0, q1, q2⟩ := HS.out.2.2.at_ (Touch.refl F _)
  have c3 := hE0.c3
  have HL := Lib.hid (fun (W : World) (t : Touch [] _ W) => local_eng (hE0.touch t (by simp)) hf.fr a)
  obtain ⟨⟨x, e⟩, hxe⟩ : ∃ q, localV m.fr a = q := ⟨_, rfl⟩
  rw [hxe] at HL hq0
  dsimp only at HL hq0
  clear hxe
  have HE0 := Lib.hid hE0
  obtain ⟨⟨sa, sb, sc⟩, m'⟩ := q
  dsimp only
  have HSB := Lib.hid (fun (W : World) (t : Touch [] _ W) => And.intro (HS.out.2.1.at_ (t.mono (by simp))) (HS.out.2.2.at_ (t.mono (by simp))))
  go_enter Tryz.func87, Tryz.ntmps87
  go_upto_region 1 with fail
  clear hz hE0 h
  generalize ((w.alloc (.cells #[.pointer (some ⟨g, 0, none⟩)] 27)).alloc (.cells #[.int .u8 13, .int .i64 a, .int .i64 v] 56)).alloc (.cells #[.int .i64 0, .int .i64 0, .int .i64 0] 48) = W0 at *
  have HFI := Lib.hid hf
  have HQ := Lib.hid hq0
  clear hf hq0
  go_upto_region 11 with fail
  go_cut [6, 7] from 38 to 47 (fun xv ev wc => xv = .int .i64 x ∧ ev = .int .i64 e ∧ Touch [] W0 wc)
  case first =>
    go_region_law (first
      | (go_simp; go_at_call 115; refine Calls.mono (HL.out _ (Touch.refl [] W0).drew) ?_; rintro _ w5 ⟨rfl, t5⟩; have T5 := Lib.hid ((Touch.refl [] W0).drew.trans t5 (by simp)); clear t5))
    all_goals go_wp2_with fail
    all_goals go_meet
    all_goals exact ⟨rfl, rfl, T5.out⟩
  case rest =>
    obtain ⟨rfl, rfl, tX⟩ := hcut
    obtain ⟨b0, x0, x1, x2⟩ := HSB.out wc tX
    have hEx := HE0.out.touch tX (by simp)
    have kX : Keep W0 g p F m wc := (Keep.refl HE0.out).quiet tX
    obtain ⟨F1, h1, n1⟩ := kX.open
    by_cases he : e = 0
    · subst he
      have hq := HQ.out
      rw [if_pos rfl] at hq
      obtain ⟨⟨pe, pm⟩, hp⟩ : ∃ q, m.push x = q := ⟨_, rfl⟩
      have hpf : Fine pm := by have := HFI.out.push x; rw [hp] at this; exact this
      have hP := push_sem h1 HFI.out.st x
      rw [hp] at hq hP
      have HD := Lib.hid (fun (W : World) F2 (hW : EngAt W g p F2 pm) => done_sem hW hpf pe)
      rw [← hq] at HD
      clear hp hpf hEx kX h1 hq q0 q1 q2 c3
      go_wp2_with fail
      refine hP.mono ?_
      rintro _ w2 ⟨rfl, k2⟩
      have k2 := n1.out _ _ k2
      have b2 : w2.cell? ⟨z, 0, none⟩ = some (.pointer (some ⟨g, 0, none⟩)) := by obtain ⟨_, _, t3, _⟩ := k2; exact HS.out.2.1.at_ t3
      obtain ⟨F2, h2, n2⟩ := k2.open
      have hD := HD.out _ _ h2
      clear hP k2 h2 n1
      go_wp2_with fail
      refine hD.mono ?_
      rintro _ w3 ⟨rfl, k3⟩
      have k3 := n2.out _ _ k3
      have hb := HS.out.1.blk k3
      obtain ⟨⟨e0, e1, e2⟩, g0, g1, g2⟩ := zeros_of hb
      obtain ⟨r0, r1, r2⟩ := three_read hb (.int .i64 sa) (.int .i64 sb) (.int .i64 sc)
      have HK := Lib.hid (HS.out.1.end_ k3 (.int .i64 sa) (.int .i64 sb) (.int .i64 sc))
      clear k3 hb hD b2
      go_wp2_with fail
      refine bodyPost_ret (by simp [results, Tryz.results87, go_sem, r0, r1, r2]; try rfl) rfl ?_
      exact ⟨rfl, HK.out⟩
    · have he' : (e == 0) = false := by simpa using he
      have hq := HQ.out
      rw [if_neg he] at hq
      have hD := done_sem h1 HFI.out e
      rw [← hq] at hD
      clear hEx kX h1 hq q0 q1 q2 c3 he
      go_wp2_with fail
      refine hD.mono ?_
      rintro _ w3 ⟨rfl, k3⟩
      have k3 := n1.out _ _ k3
      have hb := HS.out.1.blk k3
      obtain ⟨⟨e0, e1, e2⟩, g0, g1, g2⟩ := zeros_of hb
      obtain ⟨r0, r1, r2⟩ := three_read hb (.int .i64 sa) (.int .i64 sb) (.int .i64 sc)
      have HK := Lib.hid (HS.out.1.end_ k3 (.int .i64 sa) (.int .i64 sb) (.int .i64 sc))
      clear k3 hb hD b0 x0 x1 x2
      go_wp2_with fail
      refine bodyPost_ret (by simp [results, Tryz.results87, go_sem, r0, r1, r2]; try rfl) rfl ?_
      exact ⟨rfl, HK.out⟩
theorem does_12 {D : Int → PS → Int × PS} (m : M) (a v : Int) : m.does D 12 a v = m.with_ a (fun l m => m.pushFr ⟨4, 0, 0, 0, 0, l⟩) := by
  unfold M.does
  rw [if_neg (show ¬ (12 : Int) = 1 by decide), if_neg (show ¬ (12 : Int) = 2 by decide), if_neg (show ¬ (12 : Int) = 3 by decide), if_neg (show ¬ (12 : Int) = 4 by decide), if_neg (show ¬ (12 : Int) = 5 by decide), if_neg (show ¬ (12 : Int) = 6 by decide), if_neg (show ¬ (12 : Int) = 7 by decide), if_neg (show ¬ (12 : Int) = 8 by decide), if_neg (show ¬ (12 : Int) = 9 by decide), if_neg (show ¬ (12 : Int) = 10 by decide), if_neg (show ¬ (12 : Int) = 11 by decide), if_pos rfl]
theorem does_13 {D : Int → PS → Int × PS} (m : M) (a v : Int) : m.does D 13 a v = (if (localV m.fr a).2 = 0 then M.done (m.push (localV m.fr a).1) else M.done ((localV m.fr a).2, m)) := by
  unfold M.does
  rw [if_neg (show ¬ (13 : Int) = 1 by decide), if_neg (show ¬ (13 : Int) = 2 by decide), if_neg (show ¬ (13 : Int) = 3 by decide), if_neg (show ¬ (13 : Int) = 4 by decide), if_neg (show ¬ (13 : Int) = 5 by decide), if_neg (show ¬ (13 : Int) = 6 by decide), if_neg (show ¬ (13 : Int) = 7 by decide), if_neg (show ¬ (13 : Int) = 8 by decide), if_neg (show ¬ (13 : Int) = 9 by decide), if_neg (show ¬ (13 : Int) = 10 by decide), if_neg (show ¬ (13 : Int) = 11 by decide), if_neg (show ¬ (13 : Int) = 12 by decide), if_pos rfl]
  exact localV_eq m a
theorem does_14 {D : Int → PS → Int × PS} (m : M) (a v : Int) : m.does D 14 a v = m.with_ 1 (fun l m => setLM m a (l.getD 0 0)) := by
  unfold M.does
  rw [if_neg (show ¬ (14 : Int) = 1 by decide), if_neg (show ¬ (14 : Int) = 2 by decide), if_neg (show ¬ (14 : Int) = 3 by decide), if_neg (show ¬ (14 : Int) = 4 by decide), if_neg (show ¬ (14 : Int) = 5 by decide), if_neg (show ¬ (14 : Int) = 6 by decide), if_neg (show ¬ (14 : Int) = 7 by decide), if_neg (show ¬ (14 : Int) = 8 by decide), if_neg (show ¬ (14 : Int) = 9 by decide), if_neg (show ¬ (14 : Int) = 10 by decide), if_neg (show ¬ (14 : Int) = 11 by decide), if_neg (show ¬ (14 : Int) = 12 by decide), if_neg (show ¬ (14 : Int) = 13 by decide), if_pos rfl]
  congr 1
  funext l m'
  exact setLM_eq m' a (l.getD 0 0)
/-- what is done with locals is as the plain engine does it -/
theorem locOk_all {g : Nat} {p : Lay} {F : List Nat} {m : M} {D : Int → PS → Int × PS} (hf : Fine m) (hb : ∀ a v, m.at_ m.df m.on = some (12, a, v) → 0 ≤ a ∧ a ≤ 1000) : LocOk D g p F m := by
  intro op a v hat ho W hW
  have hf1 : Fine { m with on := m.on + 1 } := hf.at_ m.df (m.on + 1) m.nx
  rcases ho with rfl | rfl | rfl
  · obtain ⟨h1, h2⟩ := hb a v hat
    obtain ⟨n, rfl⟩ : ∃ n : Nat, a = n := ⟨a.toNat, by omega⟩
    rw [does_12]
    exact holds_locals_sem hW hf1 n (by omega) v
  · exact holds_local_sem hW hf1 a v _ (does_13 _ a v)
  · rw [does_14]
    exact holds_to_sem hW hf1 a v
end En
end Go.Proofs.YtdokeddjcpnmiaaGreatDoor
