import Derived.Test.YtdokeddjcpnmiaaGreatDoorJFind
import Derived.Test.YtdokeddjcpnmiaaGreatDoorJStkA
import Derived.Deep.RegionWith
import Derived.Deep.CutRange
/- prim's Do: what is done by a number of one of the three maps. -/
namespace Go.Proofs.YtdokeddjcpnmiaaGreatDoor
open Go.RowKit

def PS.same (S T : PS) : Prop := T.t = S.t ∧ T.k = S.k ∧ T.m = S.m ∧ T.g = S.g ∧ T.n = S.n ∧ T.st = S.st
def PS.ok (S : PS) : Prop := S.out.length ≤ 4000 ∧ S.made.length ≤ 200 ∧ 1024 ≤ S.n ∧ S.n % 8 = 0
theorem own_from {w : World} {base n : Nat} {e : TypeId} {size : Nat} {v : Value} {xs : List Value} (h : w.ownsRow base e size v n xs) : ∀ x ∈ rowOf v, base ≤ x := by
  rcases h.2 with ⟨rfl, _⟩ | ⟨g, cap, cur, rfl, hb, _⟩
  · simp [rowOf]
  · intro x hx
    simp [rowOf] at hx
    subst hx
    exact hb
theorem StateAt.lt {w : World} {s : Nat} {F : List Nat} {S : PS} (h : StateAt w s F S) : ∀ x ∈ F, x < w.heap.size := by
  obtain ⟨FS, ov, mv, h, rfl⟩ := h
  intro x hx
  simp only [foot, List.mem_cons, List.mem_append] at hx
  rcases hx with rfl | rfl | rfl | rfl | hx | hx | hx
  · exact h.blk.lt
  · exact h.tel.lt
  · exact h.mem.blk.lt
  · exact h.mem.row.lt
  · exact h.stk.lt x hx
  · exact row_lt h.out.1 hx
  · exact row_lt h.made.1 hx
theorem Sub.lower {w w' : World} {F G : List Nat} (h : Sub w' F G) (hs : w.heap.size ≤ w'.heap.size) : Sub w F G := fun f hf => by
  rcases h f hf with h | h
  · exact .inl h
  · exact .inr (by omega)
/-- cells in a block of their own -/
def CellsG (w : World) (cv : Value) (cs : List Int) : Prop :=
  (cv = .slice none 0 0 ∧ cs = []) ∨ ∃ g c, cv = .slice (some ⟨g, 0, none⟩) cs.length c ∧ ∀ j u, (cells cs)[j]? = some u → w.cell? ⟨g, j, none⟩ = some u
theorem row_cellsG {w : World} {base : Nat} {v : Value} {cs : List Int} (h : w.ownsRow base 33 1 v cs.length (cells cs)) : CellsG w v cs := by
  rcases h.2 with ⟨e, h0⟩ | ⟨g, cap, cur, e, _⟩
  · exact .inl ⟨e, List.eq_nil_of_length_eq_zero h0⟩
  · subst e
    refine .inr ⟨g, cap, rfl, fun j u hj => ?_⟩
    have := h.cells (g := g) rfl j u hj
    rw [add_off, Nat.zero_add] at this
    exact this
theorem CellsG.get {w : World} {cv : Value} {cs : List Int} (h : CellsG w cv cs) (h0 : 0 < cs.length) : ∃ g c, cv = .slice (some ⟨g, 0, none⟩) cs.length c ∧ ∀ i, i < cs.length → w.cell? ⟨g, i, none⟩ = some (.int .i64 (cs.getD i 0)) := by
  rcases h with ⟨_, rfl⟩ | ⟨g, c, e, hc⟩
  · simp at h0
  · exact ⟨g, c, e, fun i hi => hc i _ (cells_get cs i hi)⟩
/-- what is done, by its number: how many cells it takes, what it tells of them -/
def OpSem (op : Int) (n : Nat) (pre : List Int → PS → Prop) (act : List Int → PS → (List Int × Int) × PS) : Prop := ∀ (W : World) (B s : Nat) (F : List Nat) (S : PS) (t : Int) (f : FuncId) (first cap : Array Value) (l : List Int) (lv : Value),
  S.ok → StateAt W s F S → (∀ x ∈ F, x < B) → FoundAt B s S.m op (.agg #[.int .i64 t, .func (.func f) first cap]) W → t = n ∧ Enters Tryz.prog f ∧ (l.length = n → pre l S → CellsG W lv l →
    Calls Tryz.prog f (first ++ #[lv] ++ cap) W fun e w' => ∃ ov F', e = .returned (.tuple #[ov, .int .i64 (act l S).1.2]) ∧ CellsAt w' ov (act l S).1.1 ∧ StateAt w' s F' (act l S).2 ∧ PS.same S (act l S).2 ∧ Touch F W w' ∧ Sub W F F')
def doP (n : Nat) (act : List Int → PS → (List Int × Int) × PS) (S : PS) : Int × PS :=
  if S.st.length < n then (-4, S) else
  let r := act (S.st.drop (S.st.length - n)) { S with st := S.st.take (S.st.length - n) }
  if r.1.2 = 0 then (if r.2.st.length + r.1.1.length ≤ 128 then (0, { r.2 with st := r.2.st ++ r.1.1 }) else (-3, { r.2 with st := S.st })) else (r.1.2, { r.2 with st := S.st })

set_option maxRecDepth 100000 in
set_option maxHeartbeats 1500000 in
theorem Do_sem (op : Int) (n : Nat) (pre : List Int → PS → Prop) (act : List Int → PS → (List Int × Int) × PS) (hsem : OpSem op n pre act) (h1 : 43 ≤ op) (h2 : op ≤ 107) (h3 : op < 61 ∨ 70 < op) (hn : n ≤ 4) (w : World) (s : Nat) (F : List Nat) (S : PS) (h : StateAt w s F S) (hok : S.ok) (hst : S.st.length ≤ 128) (hpre : n ≤ S.st.length → pre (S.st.drop (S.st.length - n)) { S with st := S.st.take (S.st.length - n) }) :
    Calls Tryz.prog 64 #[.pointer (some ⟨s, 0, none⟩), .int .i64 op] w fun e w' => ∃ F', e = .returned (.int .i64 (doP n act S).1) ∧ StateAt w' s F' (doP n act S).2 ∧ Touch F w w' ∧ Sub w F F' := by
  obtain ⟨FS, ov, mv, hp, rfl⟩ := h
  have hFi := find_any w s S.m op h1 h2 h3 (hp.blk.cell 2)
  have g1 : op ≥ 28 := by omega
  have g2 : ¬ op ≤ 42 := by omega
  have HH := Lib.hid (And.intro hp (And.intro hsem (And.intro hn hst)))
  clear hp hsem hn hst h1 h2 h3
  go_enter Tryz.func64, Tryz.ntmps64
  go_wp2_with fail
  refine hFi.mono ?_
  rintro _ w1 ⟨v, rfl, hF, t1⟩
  obtain ⟨t, f, first, cap, rfl⟩ := hF.form
  have bO := Blk.new w1 156 #[.int .i64 t, .nilFunc]
  have hsf := store_fn2 (P := Tryz.prog) (bO.cell 1) (bO.frozen 1) f first cap
  have bV := Blk.new w1 156 #[.int .i64 t, .func (.func f) first cap]
  have tV := (Touch.refl [] w1).alloc (.cells #[.int .i64 t, .func (.func f) first cap] 156)
  clear bO hFi g1 g2
  go_upto_region 8 with fail
  have tW := t1.trans tV (by simp)
  have hF2 := FoundAt.from_ (B := w.heap.size) (fun g ty cs hg hb => hb.touch tV (by simp)) hF
  obtain ⟨gv, hgv⟩ : ∃ g, w1.heap.size = g := ⟨_, rfl⟩
  have hgw : w.heap.size ≤ gv := by rw [← hgv]; exact t1.size
  rw [hgv] at bV ⊢
  clear hgv hF tV
  generalize (w1.alloc (.cells #[.int .i64 t, .func (.func f) first cap] 156)) = W2 at *
  have hp2 := HH.out.1.quiet tW (by simp)
  have hlt := StateAt.lt (S := S) ⟨FS, ov, mv, HH.out.1, rfl⟩
  have hse := HH.out.2.1 W2 w.heap.size s _ S t f first cap [] (.slice none 0 0) hok ⟨FS, ov, mv, hp2, rfl⟩ hlt hF2
  obtain ⟨rfl, hEn, _⟩ := hse
  have hAl := All_any W2 S.k FS S.st hp2.stk (by have := HH.out.2.2.2; omega)
  have s1 := hp2.blk.cell 1
  have HW := Lib.hid (And.intro tW (And.intro hF2 (And.intro hp2 (And.intro hlt (And.intro hgw bV)))))
  clear t1 tW hF2 hp2 hlt hgw bV hsf
  go_wp2_with fail
  refine hAl.mono ?_
  rintro _ W3 ⟨shv, rfl, hsh, t3⟩
  clear hAl s1
  obtain ⟨tW, hF2, hp2, hlt, hgw, bV⟩ := HW.out
  have hp3 := hp2.quiet t3 (by simp)
  have s1 := hp3.blk.cell 1
  have bV3 := bV.touch t3 (by simp)
  have v0 := bV3.cell 0
  obtain ⟨sha, shc, rfl⟩ := own_slice hsh
  have z3 := t3.size
  have z2 := tW.size
  by_cases hlen : S.st.length < n
  · have hTk := Take_under W3.drew S.k FS S.st (hp3.stk.touch (Touch.refl [] W3).drew (by simp)) n hlen (by have := HH.out.2.2.1; omega)
    have hd : doP n act S = (-4, S) := by unfold doP; rw [if_pos hlen]
    have hfin : StateAt W3 s (foot s S FS ov mv) S := ⟨FS, ov, mv, hp3, rfl⟩
    have HF := Lib.hid (And.intro hfin (And.intro (tW.trans t3 (by simp)) hd))
    clear hfin hp3 hp2 hF2 hlt hgw bV bV3 tW t3 z3 z2 hsh hd
    go_upto_region 9 with fail
    go_region_with (go_at_call 98; refine hTk.mono ?_; rintro _ _ ⟨rfl, rfl⟩)
    all_goals go_wp2_with fail
    all_goals go_ret
    all_goals exact ⟨_, by rw [HF.out.2.2]; rfl, by rw [HF.out.2.2]; exact HF.out.1.quiet ((Touch.refl [] W3).drew), (HF.out.2.1.drew).mono (by simp), Sub.refl _ _⟩
  · have hTk := Take_ok W3.drew S.k FS S.st (hp3.stk.touch (Touch.refl [] W3).drew (by simp)) n (by omega) (by have := HH.out.2.2.2; omega)
    have hz : ¬ S.st.length < n := hlen
    have HF := Lib.hid (And.intro hp3 (And.intro hsh (And.intro bV3 (And.intro (FoundAt.from_ (B := w.heap.size) (fun g ty cs hg hb => hb.touch t3 (by simp)) hF2) (And.intro (tW.trans t3 (by simp)) (And.intro z2 (And.intro hlt (And.intro hgw hz))))))))
    clear hp3 hp2 hF2 hlt hgw bV bV3 tW t3 z3 z2 hsh hz
    go_upto_region 9 with fail
    go_cut [8, 9] from 40 to 49 (fun lv ev wx => ∃ a c, lv = .slice a n c ∧ ev = .int .i64 0 ∧ wx.ownsRow W3.drew.heap.size 33 1 lv n (cells (S.st.drop (S.st.length - n))) ∧ StackAt wx S.k FS (S.st.take (S.st.length - n)) ∧ Touch FS W3 wx)
    case first =>
      go_region_with (go_at_call 98; refine hTk.mono ?_; rintro _ w4 ⟨lv, rfl, k1, k2, k3⟩; obtain ⟨la, lc, rfl⟩ := own_slice k1)
      all_goals (go_wp2_with fail; go_meet; exact ⟨la, lc, rfl, rfl, k1, k2, k3.of_drew⟩)
    case rest =>
      obtain ⟨la, lc, rfl, rfl, k1, k2, k3⟩ := hcut
      clear hTk v0 s1
      obtain ⟨hp3, hsh, bV3, hF3, tw, z2, hlt, hgw, hz⟩ := HF.out
      clear HF
      have hst := HH.out.2.2.2
      have hFS : ∀ x ∈ FS, x < w.heap.size := fun x hx => hlt x (foot_has_stack x hx)
      have bV4 := bV3.touch k3 (fun hm => by have := hFS _ hm; omega)
      have v1 := bV4.cell 1
      have hp4 := hp3.stack k2 k3
      have hsh4 := row_touch hsh k3 (fun x hx hm => by have h1 := own_from hsh x hx; have h2 := hFS _ hm; omega)
      have hF4 := FoundAt.from_ (B := w.heap.size) (fun g ty cs hg hb => hb.touch k3 (fun hm => by have := hFS _ hm; omega)) hF3
      have hdl : (S.st.drop (S.st.length - n)).length = n := by rw [List.length_drop]; omega
      have hcs : CellsG wc (.slice la n lc) (S.st.drop (S.st.length - n)) := row_cellsG (base := W3.drew.heap.size) (by rw [hdl]; exact k1)
      have hC := (HH.out.2.1 wc w.heap.size s _ { S with st := S.st.take (S.st.length - n) } n f first cap (S.st.drop (S.st.length - n)) (.slice la n lc) hok ⟨FS, ov, mv, hp4, rfl⟩ hlt hF4).2.2 hdl (hpre (by omega)) hcs
      have t4 : Touch (foot s S FS ov mv) w wc := (tw.mono (by simp)).trans k3 (fun g hg => .inl (foot_has_stack g hg))
      have z4 := t4.size
      obtain ⟨q, hq⟩ : ∃ q, act (S.st.drop (S.st.length - n)) { S with st := S.st.take (S.st.length - n) } = q := ⟨_, rfl⟩
      have hd : doP n act S = if q.1.2 = 0 then (if q.2.st.length + q.1.1.length ≤ 128 then (0, { q.2 with st := q.2.st ++ q.1.1 }) else (-3, { q.2 with st := S.st })) else (q.1.2, { q.2 with st := S.st }) := by
        unfold doP
        rw [if_neg hz]
        simp only [hq]
      rw [hq] at hC
      clear hq hcs hdl hp4 hF4 hp3 hF3 bV3 hz hgw
      obtain ⟨⟨o, e⟩, S5⟩ := q
      have hent : ∀ (args : Array Value) (w : World), (callFunc f args).run Tryz.prog w = .ok (.enter f args) w := hEn
      obtain ⟨hp, hsem, hn, _⟩ := HH.out
      have hshc : CellsAt wc (.slice sha S.st.length shc) S.st := row_cells hsh4
      have HF := Lib.hid (And.intro hsh4 (And.intro t4 (And.intro z4 (And.intro hFS (And.intro hlt (And.intro hst z2))))))
      clear hsh hsh4 hshc t4 z4 hFS hlt hst z2 hsem hn hp k1 k2 k3 tw bV4
      have hstl : (S.st.take (S.st.length - n)).length ≤ 128 := by have := HF.out.2.2.2.2.2.1; rw [List.length_take]; omega
      by_cases he : e = 0
      · subst he
        rw [if_pos rfl] at hd
        go_wp2_with fail
        refine hC.mono ?_
        rintro _ W5 ⟨ov5, F5, rfl, hov, hS5, hsame, t5, hsub⟩
        obtain ⟨FS5, ow, mw, hp5, rfl⟩ := hS5
        obtain ⟨e1, e2, e3, e4, e5, hse⟩ := hsame
        clear e1 e2 e3 e4 e5
        have hse : S5.st = S.st.take (S.st.length - n) := hse
        have s5 := hp5.blk.cell 1
        have hl5 : S5.st.length ≤ 128 := by rw [hse]; exact hstl
        clear hC v1 hent
        by_cases hr : S5.st.length + o.length ≤ 128
        · rw [if_pos hr] at hd
          have hPu := Put_row W5 S5.k FS5 S5.st hp5.stk ov5 o hov hr
          have HG := Lib.hid (And.intro hp5 (And.intro t5 hsub))
          clear hp5 t5 hsub hov hse hl5 hr
          go_wp2_with fail
          refine hPu.mono ?_
          rintro _ W6 ⟨FS6, rfl, hk6, t6, hs6⟩
          clear hPu
          obtain ⟨hp5, t5, hsub⟩ := HG.out
          have hp6 := hp5.stack hk6 t6
          have s6 := hp6.blk.cell 1
          have hfin : StateAt W6 s (foot s { S5 with st := S5.st ++ o } FS6 ow mw) { S5 with st := S5.st ++ o } := ⟨FS6, ow, mw, hp6, rfl⟩
          have hT : Touch (foot s S FS ov mv) w W6 := (HF.out.2.1.trans t5 (fun g hg => .inl hg)).trans t6 (fun g hg => by
            rcases hsub g (foot_has_stack g hg) with h | h
            · exact .inl h
            · have := HF.out.2.2.1; exact .inr (by omega))
          have hS6 : Sub w (foot s S FS ov mv) (foot s { S5 with st := S5.st ++ o } FS6 ow mw) := Sub.trans (hsub.lower HF.out.2.2.1) (foot_stack hs6) (by have := hT.size; have := t6.size; have := HF.out.2.2.1; have := t5.size; omega)
          have HZ := Lib.hid (And.intro hfin (And.intro hT (And.intro hS6 hd)))
          clear hfin hT hS6 hd hp6 hk6 t6 hs6 hp5 t5 hsub
          go_wp2_with fail
          go_ret
          exact ⟨_, by rw [HZ.out.2.2.2]; rfl, by rw [HZ.out.2.2.2]; exact HZ.out.1, HZ.out.2.1, HZ.out.2.2.1⟩
        · rw [if_neg hr] at hd
          have hshc := HF.out.1
          obtain ⟨ova, ovc, rfl⟩ := hov.form
          have hPu := Put_over W5 S5.k FS5 S5.st hp5.stk hl5 ova o.length ovc (by omega)
          have hC0 := Cut_zero W5 S5.k FS5 S5.st hp5.stk
          have HG := Lib.hid (And.intro hp5 (And.intro t5 hsub))
          clear hp5 t5 hsub hov hse hl5 hr hshc
          go_wp2_with fail
          refine hPu.mono ?_
          rintro _ _ ⟨rfl, rfl⟩
          clear hPu
          go_wp2_with fail
          refine hC0.mono ?_
          rintro _ W6 ⟨rfl, hk6, t6⟩
          clear hC0
          obtain ⟨hp5, t5, hsub⟩ := HG.out
          have hp6 := hp5.stack hk6 t6
          have s6 := hp6.blk.cell 1
          have t45 := HF.out.2.1.trans t5 (fun g hg => .inl hg)
          have z6 := t6.size
          have z5 := t5.size
          have hshc6 : CellsAt W6 (.slice sha S.st.length shc) S.st := row_cells (row_touch (row_touch HF.out.1 t5 (fun x hx hm => by have h1 := own_from HF.out.1 x hx; have h2 := HF.out.2.2.2.2.1 _ hm; have := HF.out.2.2.2.2.2.2; omega)) t6 (fun x hx hm => by
            have h1 := own_from HF.out.1 x hx
            have h3 := row_lt HF.out.1 hx
            have := HF.out.2.2.2.2.2.2
            rcases hsub x (foot_has_stack x hm) with h | h
            · have h2 := HF.out.2.2.2.2.1 _ h; omega
            · omega))
          have hPb := Put_row W6 S5.k FS5 [] hk6 _ S.st hshc6 (by have := HF.out.2.2.2.2.2.1; simpa using this)
          have HG6 := Lib.hid (And.intro hp6 (And.intro t45 (And.intro t6 (And.intro z6 (And.intro z5 hsub)))))
          clear hp6 t45 t6 z6 z5 hsub hp5 t5 hshc6 hk6
          go_wp2_with fail
          refine hPb.mono ?_
          rintro _ W7 ⟨FS7, rfl, hk7, t7, hs7⟩
          clear hPb
          obtain ⟨hp6, t45, t6, z6, z5, hsub⟩ := HG6.out
          have hp7 := hp6.stack hk7 t7
          rw [List.nil_append] at hp7
          have hfin : StateAt W7 s (foot s { S5 with st := S.st } FS7 ow mw) { S5 with st := S.st } := ⟨FS7, ow, mw, hp7, rfl⟩
          have hk : ∀ g ∈ FS5, g ∈ foot s S FS ov mv ∨ w.heap.size ≤ g := fun g hg => by
            rcases hsub g (foot_has_stack g hg) with h | h
            · exact .inl h
            · have := HF.out.2.2.1; exact .inr (by omega)
          have hT : Touch (foot s S FS ov mv) w W7 := (t45.trans t6 hk).trans t7 hk
          have hS7 : Sub w (foot s S FS ov mv) (foot s { S5 with st := S.st } FS7 ow mw) := Sub.trans (hsub.lower HF.out.2.2.1) (foot_stack hs7) (by have := HF.out.2.2.1; omega)
          have HZ := Lib.hid (And.intro hfin (And.intro hT (And.intro hS7 hd)))
          clear hfin hT hS7 hd hp6 hk7 t7 hs7 hp7 t6 t45 hsub z6 z5
          go_wp2_with fail
          go_ret
          exact ⟨_, by rw [HZ.out.2.2.2]; rfl, by rw [HZ.out.2.2.2]; exact HZ.out.1, HZ.out.2.1, HZ.out.2.2.1⟩
      · rw [if_neg he] at hd
        have he' : (e == 0) = false := by simp [he]
        go_wp2_with fail
        refine hC.mono ?_
        rintro _ W5 ⟨ov5, F5, rfl, hov, hS5, hsame, t5, hsub⟩
        obtain ⟨FS5, ow, mw, hp5, rfl⟩ := hS5
        clear hsame
        have s5 := hp5.blk.cell 1
        clear hC v1 hent
        have hC0 := Cut_zero W5 S5.k FS5 S5.st hp5.stk
        have HG := Lib.hid (And.intro hp5 (And.intro t5 hsub))
        clear hp5 t5 hsub hov
        go_wp2_with fail
        refine hC0.mono ?_
        rintro _ W6 ⟨rfl, hk6, t6⟩
        clear hC0
        obtain ⟨hp5, t5, hsub⟩ := HG.out
        have hp6 := hp5.stack hk6 t6
        have s6 := hp6.blk.cell 1
        have t45 := HF.out.2.1.trans t5 (fun g hg => .inl hg)
        have z6 := t6.size
        have z5 := t5.size
        have hshc6 : CellsAt W6 (.slice sha S.st.length shc) S.st := row_cells (row_touch (row_touch HF.out.1 t5 (fun x hx hm => by have h1 := own_from HF.out.1 x hx; have h2 := HF.out.2.2.2.2.1 _ hm; have := HF.out.2.2.2.2.2.2; omega)) t6 (fun x hx hm => by
          have h1 := own_from HF.out.1 x hx
          have h3 := row_lt HF.out.1 hx
          have := HF.out.2.2.2.2.2.2
          rcases hsub x (foot_has_stack x hm) with h | h
          · have h2 := HF.out.2.2.2.2.1 _ h; omega
          · omega))
        have hPb := Put_row W6 S5.k FS5 [] hk6 _ S.st hshc6 (by have := HF.out.2.2.2.2.2.1; simpa using this)
        have HG6 := Lib.hid (And.intro hp6 (And.intro t45 (And.intro t6 (And.intro z6 (And.intro z5 hsub)))))
        clear hp6 t45 t6 z6 z5 hsub hp5 t5 hshc6 hk6
        go_wp2_with fail
        refine hPb.mono ?_
        rintro _ W7 ⟨FS7, rfl, hk7, t7, hs7⟩
        clear hPb
        obtain ⟨hp6, t45, t6, z6, z5, hsub⟩ := HG6.out
        have hp7 := hp6.stack hk7 t7
        rw [List.nil_append] at hp7
        have hfin : StateAt W7 s (foot s { S5 with st := S.st } FS7 ow mw) { S5 with st := S.st } := ⟨FS7, ow, mw, hp7, rfl⟩
        have hk : ∀ g ∈ FS5, g ∈ foot s S FS ov mv ∨ w.heap.size ≤ g := fun g hg => by
          rcases hsub g (foot_has_stack g hg) with h | h
          · exact .inl h
          · have := HF.out.2.2.1; exact .inr (by omega)
        have hT : Touch (foot s S FS ov mv) w W7 := (t45.trans t6 hk).trans t7 hk
        have hS7 : Sub w (foot s S FS ov mv) (foot s { S5 with st := S.st } FS7 ow mw) := Sub.trans (hsub.lower HF.out.2.2.1) (foot_stack hs7) (by have := HF.out.2.2.1; omega)
        have HZ := Lib.hid (And.intro hfin (And.intro hT (And.intro hS7 hd)))
        clear hfin hT hS7 hd hp6 hk7 t7 hs7 hp7 t6 t45 hsub z6 z5
        go_wp2_with fail
        go_ret
        exact ⟨_, by rw [HZ.out.2.2.2]; rfl, by rw [HZ.out.2.2.2]; exact HZ.out.1, HZ.out.2.1, HZ.out.2.2.1⟩
end Go.Proofs.YtdokeddjcpnmiaaGreatDoor
