import Derived.Test.YtkbchpaofmlhgaaGreatDoorJFindD
import Derived.Test.YtkbchpaofmlhgaaGreatDoorJStkA
import Derived.Deep.RegionWith
import Derived.Deep.CutRange
import Derived.Lib.AppendStr
import Derived.Deep.RegionLaw
import Derived.Shelf.Bytes.SlSmallAll
import Derived.Lib.BufferWrite
import Derived.Lib.SlBuf
import Derived.Test.YtkbchpaofmlhgaaGreatDoorJMapsA
import Derived.Deep.QuietTactic
import Derived.Shelf.Abstract
import Derived.Shelf.SlicesE.Reverse
import Derived.Sort.OwnSorted
import Derived.Test.YtkbchpaofmlhgaaGreatDoorProg
/- prim's Do: what is done by a number of one of the three maps. -/
namespace Go.Proofs.YtkbchpaofmlhgaaGreatDoor
open Go.RowKit

def PS.same (S T : PS) : Prop := T.t = S.t ∧ T.k = S.k ∧ T.m = S.m ∧ T.g = S.g ∧ T.n = S.n ∧ T.st = S.st
def PS.ok (S : PS) : Prop := S.out.length ≤ 4000 ∧ S.made.length ≤ 200 ∧ 1024 ≤ S.n ∧ S.n % 8 = 0
theorem own_from {w : World} {base n : Nat} {e : TypeId} {size : Nat} {v : Value} {xs : List Value} (h : w.ownsRow base e size v n xs) : ∀ x ∈ rowOf v, base ≤ x := by
  rcases h.2 with ⟨rfl, _⟩ | ⟨g, cap, cur, rfl, hb, _⟩
  · simp [rowOf]
  · intro x hx
    simp [rowOf] at hx
    subst hx
    exact hb
theorem StateAt.lt {w : World} {s : Nat} {F : List Nat} {S : PS} (h : StateAt w s F S) : ∀ x ∈ F, x < w.heap.size := by
  obtain ⟨FS, ov, mv, h, rfl⟩ := h
  intro x hx
  simp only [foot, List.mem_cons, List.mem_append] at hx
  rcases hx with rfl | rfl | rfl | rfl | hx | hx | hx
  · exact h.blk.lt
  · exact h.tel.lt
  · exact h.mem.blk.lt
  · exact h.mem.row.lt
  · exact h.stk.lt x hx
  · exact row_lt h.out.1 hx
  · exact row_lt h.made.1 hx
theorem Sub.lower {w w' : World} {F G : List Nat} (h : Sub w' F G) (hs : w.heap.size ≤ w'.heap.size) : Sub w F G := fun f hf => by
  rcases h f hf with h | h
  · exact .inl h
  · exact .inr (by omega)
/-- cells in a block of their own -/
def CellsG (w : World) (cv : Value) (cs : List Int) : Prop :=
  (cv = .slice none 0 0 ∧ cs = []) ∨ ∃ g c, cv = .slice (some ⟨g, 0, none⟩) cs.length c ∧ ∀ j u, (cells cs)[j]? = some u → w.cell? ⟨g, j, none⟩ = some u
theorem row_cellsG {w : World} {base : Nat} {v : Value} {cs : List Int} (h : w.ownsRow base 36 1 v cs.length (cells cs)) : CellsG w v cs := by
  rcases h.2 with ⟨e, h0⟩ | ⟨g, cap, cur, e, _⟩
  · exact .inl ⟨e, List.eq_nil_of_length_eq_zero h0⟩
  · subst e
    refine .inr ⟨g, cap, rfl, fun j u hj => ?_⟩
    have := h.cells (g := g) rfl j u hj
    rw [add_off, Nat.zero_add] at this
    exact this
theorem CellsG.get {w : World} {cv : Value} {cs : List Int} (h : CellsG w cv cs) (h0 : 0 < cs.length) : ∃ g c, cv = .slice (some ⟨g, 0, none⟩) cs.length c ∧ ∀ i, i < cs.length → w.cell? ⟨g, i, none⟩ = some (.int .i64 (cs.getD i 0)) := by
  rcases h with ⟨_, rfl⟩ | ⟨g, c, e, hc⟩
  · simp at h0
  · exact ⟨g, c, e, fun i hi => hc i _ (cells_get cs i hi)⟩
/-- what is done, by its number: how many cells it takes, what it tells of them -/
def OpSem (op : Int) (n : Nat) (pre : List Int → PS → Prop) (act : List Int → PS → (List Int × Int) × PS) : Prop := ∀ (W : World) (B s : Nat) (F : List Nat) (S : PS) (t : Int) (f : FuncId) (first cap : Array Value) (l : List Int) (lv : Value),
  S.ok → StateAt W s F S → (∀ x ∈ F, x < B) → FoundAt B s S.m op (.agg #[.int .i64 t, .func (.func f) first cap]) W → t = n ∧ Enters Tryz.prog f ∧ (l.length = n → pre l S → CellsG W lv l →
    Calls Tryz.prog f (first ++ #[lv] ++ cap) W fun e w' => ∃ ov F', e = .returned (.tuple #[ov, .int .i64 (act l S).1.2]) ∧ CellsAt w' ov (act l S).1.1 ∧ StateAt w' s F' (act l S).2 ∧ PS.same S (act l S).2 ∧ Touch F W w' ∧ Sub W F F')
def doP (n : Nat) (act : List Int → PS → (List Int × Int) × PS) (S : PS) : Int × PS :=
  if S.st.length < n then (-4, S) else
  let r := act (S.st.drop (S.st.length - n)) { S with st := S.st.take (S.st.length - n) }
  if r.1.2 = 0 then (if r.2.st.length + r.1.1.length ≤ 128 then (0, { r.2 with st := r.2.st ++ r.1.1 }) else (-3, { r.2 with st := S.st })) else (r.1.2, { r.2 with st := S.st })

set_option maxRecDepth 100000 in
set_option maxHeartbeats 1500000 in
theorem Do_sem (op : Int) (n : Nat) (pre : List Int → PS → Prop) (act : List Int → PS → (List Int × Int) × PS) (hsem : OpSem op n pre act) (h1 : 43 ≤ op) (h2 : op ≤ 107) (h3 : op < 61 ∨ 70 < op) (hn : n ≤ 4) (w : World) (s : Nat) (F : List Nat) (S : PS) (h : StateAt w s F S) (hok : S.ok) (hst : S.st.length ≤ 128) (hpre : n ≤ S.st.length → pre (S.st.drop (S.st.length - n)) { S with st := S.st.take (S.st.length - n) }) :
    Calls Tryz.prog 14 #[.pointer (some ⟨s, 0, none⟩), .int .i64 op] w fun e w' => ∃ F', e = .returned (.int .i64 (doP n act S).1) ∧ StateAt w' s F' (doP n act S).2 ∧ Touch F w w' ∧ Sub w F F' := by
  obtain ⟨FS, ov, mv, hp, rfl⟩ := h
  have hFi := find_any w s S.m op h1 h2 h3 (hp.blk.cell 2)
  have g1 : op ≥ 28 := by omega
  have g2 : ¬ op ≤ 42 := by omega
  have HH := Lib.hid (And.intro hp (And.intro hsem (And.intro hn hst)))
  clear hp hsem hn hst h1 h2 h3
  go_enter Tryz.func14, Tryz.ntmps14
  go_wp2_with fail
  refine hFi.mono ?_
  rintro _ w1 ⟨v, rfl, hF, t1⟩
  obtain ⟨t, f, first, cap, rfl⟩ := hF.form
  have bO := Blk.new w1 88 #[.int .i64 t, .nilFunc]
  have hsf := store_fn2 (P := Tryz.prog) (bO.cell 1) (bO.frozen 1) f first cap
  have bV := Blk.new w1 88 #[.int .i64 t, .func (.func f) first cap]
  have tV := (Touch.refl [] w1).alloc (.cells #[.int .i64 t, .func (.func f) first cap] 88)
  clear bO hFi g1 g2
  go_upto_region 8 with fail
  have tW := t1.trans tV (by simp)
  have hF2 := FoundAt.from_ (B := w.heap.size) (fun g ty cs hg hb => hb.touch tV (by simp)) hF
  obtain ⟨gv, hgv⟩ : ∃ g, w1.heap.size = g := ⟨_, rfl⟩
  have hgw : w.heap.size ≤ gv := by rw [← hgv]; exact t1.size
  rw [hgv] at bV ⊢
  clear hgv hF tV
  generalize (w1.alloc (.cells #[.int .i64 t, .func (.func f) first cap] 88)) = W2 at *
  have hp2 := HH.out.1.quiet tW (by simp)
  have hlt := StateAt.lt (S := S) ⟨FS, ov, mv, HH.out.1, rfl⟩
  have hse := HH.out.2.1 W2 w.heap.size s _ S t f first cap [] (.slice none 0 0) hok ⟨FS, ov, mv, hp2, rfl⟩ hlt hF2
  obtain ⟨rfl, hEn, _⟩ := hse
  have hAl := All_any W2 S.k FS S.st hp2.stk (by have := HH.out.2.2.2; omega)
  have s1 := hp2.blk.cell 1
  have HW := Lib.hid (And.intro tW (And.intro hF2 (And.intro hp2 (And.intro hlt (And.intro hgw bV)))))
  clear t1 tW hF2 hp2 hlt hgw bV hsf
  go_wp2_with fail
  refine hAl.mono ?_
  rintro _ W3 ⟨shv, rfl, hsh, t3⟩
  clear hAl s1
  obtain ⟨tW, hF2, hp2, hlt, hgw, bV⟩ := HW.out
  have hp3 := hp2.quiet t3 (by simp)
  have s1 := hp3.blk.cell 1
  have bV3 := bV.touch t3 (by simp)
  have v0 := bV3.cell 0
  obtain ⟨sha, shc, rfl⟩ := own_slice hsh
  have z3 := t3.size
  have z2 := tW.size
  by_cases hlen : S.st.length < n
  · have hTk := Take_under W3.drew S.k FS S.st (hp3.stk.touch (Touch.refl [] W3).drew (by simp)) n hlen (by have := HH.out.2.2.1; omega)
    have hd : doP n act S = (-4, S) := by unfold doP; rw [if_pos hlen]
    have hfin : StateAt W3 s (foot s S FS ov mv) S := ⟨FS, ov, mv, hp3, rfl⟩
    have HF := Lib.hid (And.intro hfin (And.intro (tW.trans t3 (by simp)) hd))
    clear hfin hp3 hp2 hF2 hlt hgw bV bV3 tW t3 z3 z2 hsh hd
    go_upto_region 9 with fail
    go_region_with (go_at_call 44; refine hTk.mono ?_; rintro _ _ ⟨rfl, rfl⟩)
    all_goals go_wp2_with fail
    all_goals go_ret
    all_goals exact ⟨_, by rw [HF.out.2.2]; rfl, by rw [HF.out.2.2]; exact HF.out.1.quiet ((Touch.refl [] W3).drew), (HF.out.2.1.drew).mono (by simp), Sub.refl _ _⟩
  · have hTk := Take_ok W3.drew S.k FS S.st (hp3.stk.touch (Touch.refl [] W3).drew (by simp)) n (by omega) (by have := HH.out.2.2.2; omega)
    have hz : ¬ S.st.length < n := hlen
    have HF := Lib.hid (And.intro hp3 (And.intro hsh (And.intro bV3 (And.intro (FoundAt.from_ (B := w.heap.size) (fun g ty cs hg hb => hb.touch t3 (by simp)) hF2) (And.intro (tW.trans t3 (by simp)) (And.intro z2 (And.intro hlt (And.intro hgw hz))))))))
    clear hp3 hp2 hF2 hlt hgw bV bV3 tW t3 z3 z2 hsh hz
    go_upto_region 9 with fail
    go_cut [8, 9] from 40 to 49 (fun lv ev wx => ∃ a c, lv = .slice a n c ∧ ev = .int .i64 0 ∧ wx.ownsRow W3.drew.heap.size 36 1 lv n (cells (S.st.drop (S.st.length - n))) ∧ StackAt wx S.k FS (S.st.take (S.st.length - n)) ∧ Touch FS W3 wx)
    case first =>
      go_region_with (go_at_call 44; refine hTk.mono ?_; rintro _ w4 ⟨lv, rfl, k1, k2, k3⟩; obtain ⟨la, lc, rfl⟩ := own_slice k1)
      all_goals (go_wp2_with fail; go_meet; exact ⟨la, lc, rfl, rfl, k1, k2, k3.of_drew⟩)
    case rest =>
      obtain ⟨la, lc, rfl, rfl, k1, k2, k3⟩ := hcut
      clear hTk v0 s1
      obtain ⟨hp3, hsh, bV3, hF3, tw, z2, hlt, hgw, hz⟩ := HF.out
      clear HF
      have hst := HH.out.2.2.2
      have hFS : ∀ x ∈ FS, x < w.heap.size := fun x hx => hlt x (foot_has_stack x hx)
      have bV4 := bV3.touch k3 (fun hm => by have := hFS _ hm; omega)
      have v1 := bV4.cell 1
      have hp4 := hp3.stack k2 k3
      have hsh4 := row_touch hsh k3 (fun x hx hm => by have h1 := own_from hsh x hx; have h2 := hFS _ hm; omega)
      have hF4 := FoundAt.from_ (B := w.heap.size) (fun g ty cs hg hb => hb.touch k3 (fun hm => by have := hFS _ hm; omega)) hF3
      have hdl : (S.st.drop (S.st.length - n)).length = n := by rw [List.length_drop]; omega
      have hcs : CellsG wc (.slice la n lc) (S.st.drop (S.st.length - n)) := row_cellsG (base := W3.drew.heap.size) (by rw [hdl]; exact k1)
      have hC := (HH.out.2.1 wc w.heap.size s _ { S with st := S.st.take (S.st.length - n) } n f first cap (S.st.drop (S.st.length - n)) (.slice la n lc) hok ⟨FS, ov, mv, hp4, rfl⟩ hlt hF4).2.2 hdl (hpre (by omega)) hcs
      have t4 : Touch (foot s S FS ov mv) w wc := (tw.mono (by simp)).trans k3 (fun g hg => .inl (foot_has_stack g hg))
      have z4 := t4.size
      obtain ⟨q, hq⟩ : ∃ q, act (S.st.drop (S.st.length - n)) { S with st := S.st.take (S.st.length - n) } = q := ⟨_, rfl⟩
      have hd : doP n act S = if q.1.2 = 0 then (if q.2.st.length + q.1.1.length ≤ 128 then (0, { q.2 with st := q.2.st ++ q.1.1 }) else (-3, { q.2 with st := S.st })) else (q.1.2, { q.2 with st := S.st }) := by
        unfold doP
        rw [if_neg hz]
        simp only [hq]
      rw [hq] at hC
      clear hq hcs hdl hp4 hF4 hp3 hF3 bV3 hz hgw
      obtain ⟨⟨o, e⟩, S5⟩ := q
      have hent : ∀ (args : Array Value) (w : World), (callFunc f args).run Tryz.prog w = .ok (.enter f args) w := hEn
      obtain ⟨hp, hsem, hn, _⟩ := HH.out
      have hshc : CellsAt wc (.slice sha S.st.length shc) S.st := row_cells hsh4
      have HF := Lib.hid (And.intro hsh4 (And.intro t4 (And.intro z4 (And.intro hFS (And.intro hlt (And.intro hst z2))))))
      clear hsh hsh4 hshc t4 z4 hFS hlt hst z2 hsem hn hp k1 k2 k3 tw bV4
      have hstl : (S.st.take (S.st.length - n)).length ≤ 128 := by have := HF.out.2.2.2.2.2.1; rw [List.length_take]; omega
      by_cases he : e = 0
      · subst he
        rw [if_pos rfl] at hd
        go_wp2_with fail
        refine hC.mono ?_
        rintro _ W5 ⟨ov5, F5, rfl, hov, hS5, hsame, t5, hsub⟩
        obtain ⟨FS5, ow, mw, hp5, rfl⟩ := hS5
        obtain ⟨e1, e2, e3, e4, e5, hse⟩ := hsame
        clear e1 e2 e3 e4 e5
        have hse : S5.st = S.st.take (S.st.length - n) := hse
        have s5 := hp5.blk.cell 1
        have hl5 : S5.st.length ≤ 128 := by rw [hse]; exact hstl
        clear hC v1 hent
        by_cases hr : S5.st.length + o.length ≤ 128
        · rw [if_pos hr] at hd
          have hPu := Put_row W5 S5.k FS5 S5.st hp5.stk ov5 o hov hr
          have HG := Lib.hid (And.intro hp5 (And.intro t5 hsub))
          clear hp5 t5 hsub hov hse hl5 hr
          go_wp2_with fail
          refine hPu.mono ?_
          rintro _ W6 ⟨FS6, rfl, hk6, t6, hs6⟩
          clear hPu
          obtain ⟨hp5, t5, hsub⟩ := HG.out
          have hp6 := hp5.stack hk6 t6
          have s6 := hp6.blk.cell 1
          have hfin : StateAt W6 s (foot s { S5 with st := S5.st ++ o } FS6 ow mw) { S5 with st := S5.st ++ o } := ⟨FS6, ow, mw, hp6, rfl⟩
          have hT : Touch (foot s S FS ov mv) w W6 := (HF.out.2.1.trans t5 (fun g hg => .inl hg)).trans t6 (fun g hg => by
            rcases hsub g (foot_has_stack g hg) with h | h
            · exact .inl h
            · have := HF.out.2.2.1; exact .inr (by omega))
          have hS6 : Sub w (foot s S FS ov mv) (foot s { S5 with st := S5.st ++ o } FS6 ow mw) := Sub.trans (hsub.lower HF.out.2.2.1) (foot_stack hs6) (by have := hT.size; have := t6.size; have := HF.out.2.2.1; have := t5.size; omega)
          have HZ := Lib.hid (And.intro hfin (And.intro hT (And.intro hS6 hd)))
          clear hfin hT hS6 hd hp6 hk6 t6 hs6 hp5 t5 hsub
          go_wp2_with fail
          go_ret
          exact ⟨_, by rw [HZ.out.2.2.2]; rfl, by rw [HZ.out.2.2.2]; exact HZ.out.1, HZ.out.2.1, HZ.out.2.2.1⟩
        · rw [if_neg hr] at hd
          have hshc := HF.out.1
          obtain ⟨ova, ovc, rfl⟩ := hov.form
          have hPu := Put_over W5 S5.k FS5 S5.st hp5.stk hl5 ova o.length ovc (by omega)
          have hC0 := Cut_zero W5 S5.k FS5 S5.st hp5.stk
          have HG := Lib.hid (And.intro hp5 (And.intro t5 hsub))
          clear hp5 t5 hsub hov hse hl5 hr hshc
          go_wp2_with fail
          refine hPu.mono ?_
          rintro _ _ ⟨rfl, rfl⟩
          clear hPu
          go_wp2_with fail
          refine hC0.mono ?_
          rintro _ W6 ⟨rfl, hk6, t6⟩
          clear hC0
          obtain ⟨hp5, t5, hsub⟩ := HG.out
          have hp6 := hp5.stack hk6 t6
          have s6 := hp6.blk.cell 1
          have t45 := HF.out.2.1.trans t5 (fun g hg => .inl hg)
          have z6 := t6.size
          have z5 := t5.size
          have hshc6 : CellsAt W6 (.slice sha S.st.length shc) S.st := row_cells (row_touch (row_touch HF.out.1 t5 (fun x hx hm => by have h1 := own_from HF.out.1 x hx; have h2 := HF.out.2.2.2.2.1 _ hm; have := HF.out.2.2.2.2.2.2; omega)) t6 (fun x hx hm => by
            have h1 := own_from HF.out.1 x hx
            have h3 := row_lt HF.out.1 hx
            have := HF.out.2.2.2.2.2.2
            rcases hsub x (foot_has_stack x hm) with h | h
            · have h2 := HF.out.2.2.2.2.1 _ h; omega
            · omega))
          have hPb := Put_row W6 S5.k FS5 [] hk6 _ S.st hshc6 (by have := HF.out.2.2.2.2.2.1; simpa using this)
          have HG6 := Lib.hid (And.intro hp6 (And.intro t45 (And.intro t6 (And.intro z6 (And.intro z5 hsub)))))
          clear hp6 t45 t6 z6 z5 hsub hp5 t5 hshc6 hk6
          go_wp2_with fail
          refine hPb.mono ?_
          rintro _ W7 ⟨FS7, rfl, hk7, t7, hs7⟩
          clear hPb
          obtain ⟨hp6, t45, t6, z6, z5, hsub⟩ := HG6.out
          have hp7 := hp6.stack hk7 t7
          rw [List.nil_append] at hp7
          have hfin : StateAt W7 s (foot s { S5 with st := S.st } FS7 ow mw) { S5 with st := S.st } := ⟨FS7, ow, mw, hp7, rfl⟩
          have hk : ∀ g ∈ FS5, g ∈ foot s S FS ov mv ∨ w.heap.size ≤ g := fun g hg => by
            rcases hsub g (foot_has_stack g hg) with h | h
            · exact .inl h
            · have := HF.out.2.2.1; exact .inr (by omega)
          have hT : Touch (foot s S FS ov mv) w W7 := (t45.trans t6 hk).trans t7 hk
          have hS7 : Sub w (foot s S FS ov mv) (foot s { S5 with st := S.st } FS7 ow mw) := Sub.trans (hsub.lower HF.out.2.2.1) (foot_stack hs7) (by have := HF.out.2.2.1; omega)
          have HZ := Lib.hid (And.intro hfin (And.intro hT (And.intro hS7 hd)))
          clear hfin hT hS7 hd hp6 hk7 t7 hs7 hp7 t6 t45 hsub z6 z5
          go_wp2_with fail
          go_ret
          exact ⟨_, by rw [HZ.out.2.2.2]; rfl, by rw [HZ.out.2.2.2]; exact HZ.out.1, HZ.out.2.1, HZ.out.2.2.1⟩
      · rw [if_neg he] at hd
        have he' : (e == 0) = false := by simp [he]
        go_wp2_with fail
        refine hC.mono ?_
        rintro _ W5 ⟨ov5, F5, rfl, hov, hS5, hsame, t5, hsub⟩
        obtain ⟨FS5, ow, mw, hp5, rfl⟩ := hS5
        clear hsame
        have s5 := hp5.blk.cell 1
        clear hC v1 hent
        have hC0 := Cut_zero W5 S5.k FS5 S5.st hp5.stk
        have HG := Lib.hid (And.intro hp5 (And.intro t5 hsub))
        clear hp5 t5 hsub hov
        go_wp2_with fail
        refine hC0.mono ?_
        rintro _ W6 ⟨rfl, hk6, t6⟩
        clear hC0
        obtain ⟨hp5, t5, hsub⟩ := HG.out
        have hp6 := hp5.stack hk6 t6
        have s6 := hp6.blk.cell 1
        have t45 := HF.out.2.1.trans t5 (fun g hg => .inl hg)
        have z6 := t6.size
        have z5 := t5.size
        have hshc6 : CellsAt W6 (.slice sha S.st.length shc) S.st := row_cells (row_touch (row_touch HF.out.1 t5 (fun x hx hm => by have h1 := own_from HF.out.1 x hx; have h2 := HF.out.2.2.2.2.1 _ hm; have := HF.out.2.2.2.2.2.2; omega)) t6 (fun x hx hm => by
          have h1 := own_from HF.out.1 x hx
          have h3 := row_lt HF.out.1 hx
          have := HF.out.2.2.2.2.2.2
          rcases hsub x (foot_has_stack x hm) with h | h
          · have h2 := HF.out.2.2.2.2.1 _ h; omega
          · omega))
        have hPb := Put_row W6 S5.k FS5 [] hk6 _ S.st hshc6 (by have := HF.out.2.2.2.2.2.1; simpa using this)
        have HG6 := Lib.hid (And.intro hp6 (And.intro t45 (And.intro t6 (And.intro z6 (And.intro z5 hsub)))))
        clear hp6 t45 t6 z6 z5 hsub hp5 t5 hshc6 hk6
        go_wp2_with fail
        refine hPb.mono ?_
        rintro _ W7 ⟨FS7, rfl, hk7, t7, hs7⟩
        clear hPb
        obtain ⟨hp6, t45, t6, z6, z5, hsub⟩ := HG6.out
        have hp7 := hp6.stack hk7 t7
        rw [List.nil_append] at hp7
        have hfin : StateAt W7 s (foot s { S5 with st := S.st } FS7 ow mw) { S5 with st := S.st } := ⟨FS7, ow, mw, hp7, rfl⟩
        have hk : ∀ g ∈ FS5, g ∈ foot s S FS ov mv ∨ w.heap.size ≤ g := fun g hg => by
          rcases hsub g (foot_has_stack g hg) with h | h
          · exact .inl h
          · have := HF.out.2.2.1; exact .inr (by omega)
        have hT : Touch (foot s S FS ov mv) w W7 := (t45.trans t6 hk).trans t7 hk
        have hS7 : Sub w (foot s S FS ov mv) (foot s { S5 with st := S.st } FS7 ow mw) := Sub.trans (hsub.lower HF.out.2.2.1) (foot_stack hs7) (by have := HF.out.2.2.1; omega)
        have HZ := Lib.hid (And.intro hfin (And.intro hT (And.intro hS7 hd)))
        clear hfin hT hS7 hd hp6 hk7 t7 hs7 hp7 t6 t45 hsub z6 z5
        go_wp2_with fail
        go_ret
        exact ⟨_, by rw [HZ.out.2.2.2]; rfl, by rw [HZ.out.2.2.2]; exact HZ.out.1, HZ.out.2.1, HZ.out.2.2.1⟩
end Go.Proofs.YtkbchpaofmlhgaaGreatDoor

/- What is told: the teller's Out and Say; the state's; its base. -/
namespace Go.Proofs.YtkbchpaofmlhgaaGreatDoor
open Go.RowKit

/-- a text's bytes -/
def strL (s : ByteArray) : List Int := s.data.toList.map fun b => (b.toNat : Int)
theorem strL_len (s : ByteArray) : (strL s).length = s.size := by
  unfold strL
  rw [List.length_map]
  exact Array.length_toList
theorem strL_bytes (s : ByteArray) : Bytes (strL s) := by
  intro x hx
  obtain ⟨b, _, rfl⟩ := List.mem_map.1 hx
  have := b.toNat_lt
  omega
theorem strL_cells (s : ByteArray) : bytesV (strL s) = Lib.strCells s := by
  unfold bytesV strL Lib.strCells
  rw [List.map_map]
  rfl
theorem bytesV_append (a b : List Int) : bytesV (a ++ b) = bytesV a ++ bytesV b := List.map_append
theorem Bytes.append {a b : List Int} (h : Bytes a) (k : Bytes b) : Bytes (a ++ b) := fun x hx => by
  rcases List.mem_append.1 hx with h1 | h1
  · exact h x h1
  · exact k x h1
theorem strL_take (s : ByteArray) (k : Nat) : strL (s.extract 0 k) = (strL s).take k := by
  unfold strL
  rw [← List.map_take]
  congr 1
  rw [ByteArray.data_extract, Array.toList_extract]
  simp
/-- one text more is told -/
def sayL (out : List Int) (s : ByteArray) : List Int := out ++ (strL s).take (4000 - out.length)
theorem sayL_len {out : List Int} (h : out.length ≤ 4000) (s : ByteArray) : (sayL out s).length ≤ 4000 := by
  unfold sayL
  rw [List.length_append, List.length_take]
  omega
theorem info_byte : (Tryz.prog.info? 5).map (fun i => (i.zero, i.size, i.bytes)) = some (some (.int .u8 0), 1, 1) := by kernel_rfl
theorem info_byte' : ∃ i0, Tryz.prog.info? 5 = some i0 ∧ i0.zero = some (.int .u8 0) ∧ i0.size = 1 ∧ i0.bytes = 1 := by
  have h := info_byte
  cases hi : Tryz.prog.info? 5 with
  | none => rw [hi] at h; cases h
  | some i =>
    rw [hi] at h
    simp only [Option.map_some, Option.some.injEq, Prod.mk.injEq] at h
    exact ⟨i, rfl, h.1, h.2.1, h.2.2⟩

section
variable {P : Program} {w : World}
theorem step_append_str {ops : Array Oper} {o : Oper} {a : Act} {K : Act → World → Prop} {Q : Exit → Act → World → Prop} {E : Prop} (hgd : o.guard = none) (sl x : Operand) (t u : TypeId)
    (ho : o.op = .call { callee := .builtin .append, args := #[sl, x], argTypes := #[t, u] })
    (e : TypeId) (i : TypeInfo) (ht : P.underlying t = some (.slice e)) (hu : P.underlying u = some .string) (hi : P.info? e = some i) (hz : i.zero = some (.int .u8 0))
    (hsize : i.size = 1) (hby : i.bytes = 1)
    (v : Value) (n : Nat) (xs : List Value) (hs : a.eval sl = v) (hown : w.ownsRow 0 e 1 v n xs) (s : ByteArray) (hx : a.eval x = .string s)
    (h63 : n + s.size ≤ 140737488355328)
    (h : ∀ b c w', w'.ownsRow 0 e 1 (.slice b (n + s.size) c) (n + s.size) (xs ++ Lib.strCells s) → w.grownBy w' v.ownBlock → (∀ g ∈ rowOf (.slice b (n + s.size) c), g ∈ rowOf v ∨ w.heap.size ≤ g) → K (a.put o.dst (.slice b (n + s.size) c)) w') :
    if Region.wanted o (yielded ops a.tmps) = true then Oper.wp P o a w K Q else E := by
  have hw : Region.wanted o (yielded ops a.tmps) = true := by simp [Region.wanted, hgd]
  rw [if_pos hw]
  obtain ⟨v', w', hr, h2, h3, h4⟩ := Lib.run_append_own_string (P := P) (w := w) 0 t u o.type e i ht hu hi hz hsize hby v n xs hown s (by unfold maxLen; omega) h63 (Nat.zero_le _)
  obtain ⟨b, c, rfl⟩ := own_slice h2
  unfold Oper.wp execOp
  simp only [ho, resolve, invoke, builtin, Sem.run_bind, Sem.run_pure, Result.andThen_ok, List.map_toArray, List.map_cons, List.map_nil, hs, hx, hr]
  refine h b c w' h2 h3 ?_
  rcases hown.2 with ⟨rfl, rfl⟩ | ⟨g, cap, cur, rfl, hbg, hg, hnc, hcm, hcs, htake⟩
  · obtain ⟨v', w'', hr', k2, _⟩ := Lib.run_append_own_string (P := P) (w := w) w.heap.size t u o.type e i ht hu hi hz hsize hby (.slice none 0 0) 0 xs ⟨hown.1, .inl ⟨rfl, rfl⟩⟩ s (by unfold maxLen; omega) h63 (Nat.le_refl _)
    rw [hr] at hr'
    injection hr' with e1 e2
    subst e1 e2
    exact fun x hx => .inr (own_from k2 x hx)
  · have hxl : xs.length = n := by simpa using hown.1
    by_cases hroom : n + s.size ≤ cap
    · have hcz : cur.size = cap := by simpa using hcs
      have hr' := Lib.run_append_room_string (P := P) w t u o.type e i ht hu hi hsize g n cap cur hg s hroom (by omega)
      rw [hr] at hr'
      injection hr' with e1 e2
      injection e1 with e1 _ _
      subst e1
      intro x hx
      exact .inl (by simpa [rowOf] using hx)
    · have holds : ∀ j u, xs[j]? = some u → w.cell? ((⟨g, 0, none⟩ : Addr).add j) = some u := hown.cells (g := g) rfl
      have hr' := Lib.run_append_grow_string (P := P) w t u o.type e i (.int .u8 0) ht hu hi hz ⟨g, 0, none⟩ n cap xs (by rw [hsize]; simpa using hxl) holds s (by omega) (by omega) (by rw [hby]; exact growslice_fits (by omega) (by omega))
      rw [hr] at hr'
      injection hr' with e1 e2
      injection e1 with e1 _ _
      subst e1
      intro x hx
      simp [rowOf] at hx
      exact .inr (by omega)
end

theorem say_end {w w1 : World} {t k : Nat} {v ba : Value} {out : List Int} {s : ByteArray} (hb : Blk w t 81 #[v]) (hr : BRow w v out) (hn : t ∉ rowOf v) (hk : min s.size (4000 - out.length) = k)
    (hown : w1.ownsRow 0 5 1 ba (out.length + k) (bytesV out ++ Lib.strCells (s.extract 0 k))) (hgr : w.drew.grownBy w1 v.ownBlock) (hat : ∀ g ∈ rowOf ba, g ∈ rowOf v ∨ w.heap.size ≤ g) :
    Blk (w1.setCell ⟨t, 0, none⟩ ba) t 81 #[ba] ∧ BRow (w1.setCell ⟨t, 0, none⟩ ba) ba (sayL out s) ∧ Touch (t :: rowOf v) w (w1.setCell ⟨t, 0, none⟩ ba) ∧ (∀ x ∈ rowOf ba, x ∈ rowOf v ∨ w.heap.size ≤ x) := by
  have hbl := hb.lt
  have hnt : t ∉ rowOf ba := fun hm => by
    rcases hat t hm with h | h
    · exact hn h
    · omega
  have hb1 := (hb.drew).grown hgr (fun e => hn (rowOf_mem.2 e.symm))
  have h1 : Touch (t :: rowOf v) w w1 := ((Touch.refl _ w).drew).grown hgr fun k hk => .inl (by simp [rowOf_mem, hk])
  have hs : sayL out s = out ++ strL (s.extract 0 k) := by
    unfold sayL
    rw [strL_take, ← hk]
    congr 1
    rw [List.take_eq_take_iff, strL_len]
    omega
  have hks : (s.extract 0 k).size = k := by simp; omega
  refine ⟨hb1.set_ 0 _, ⟨?_, ?_⟩, h1.setCell (by simp) _, hat⟩
  · rw [hs, List.length_append, strL_len, hks, bytesV_append, strL_cells]
    exact row_touch hown (F := [t]) ((Touch.refl _ _).setCell (by simp) _) (fun g hg hm => hnt (by rw [List.mem_singleton.1 hm] at hg; exact hg))
  · rw [hs]
    exact hr.2.append (strL_bytes _)
set_option maxHeartbeats 1000000 in
theorem TSay_any (w : World) (t : Nat) (v : Value) (out : List Int) (hb : Blk w t 81 #[v]) (hr : BRow w v out) (hn : t ∉ rowOf v) (hl : out.length ≤ 4000) (s : ByteArray) :
    Calls Tryz.prog 65 #[.pointer (some ⟨t, 0, none⟩), .string s] w fun e w' => ∃ v', e = .returned (.tuple #[]) ∧ Blk w' t 81 #[v'] ∧ BRow w' v' (sayL out s) ∧ Touch (t :: rowOf v) w w' ∧ (∀ x ∈ rowOf v', x ∈ rowOf v ∨ w.heap.size ≤ x) := by
  obtain ⟨i0, hi, hz, h1, h8⟩ := info_byte'
  obtain ⟨a, c, rfl⟩ := own_slice hr.1
  have c0 := hb.cell 0
  have f0 := hb.frozen 0
  have e1 : IntKind.i64.wrap (4000 - (out.length : Int)) = (4000 - out.length : Nat) := by rw [IntKind.wrap_i64]; omega
  have hmin : min (s.size : Int) ((4000 - out.length : Nat) : Int) = (min s.size (4000 - out.length) : Nat) := by omega
  have hle : min s.size (4000 - out.length) ≤ s.size := Nat.min_le_left _ _
  obtain ⟨k, hk⟩ : ∃ k, min s.size (4000 - out.length) = k := ⟨_, rfl⟩
  rw [hk] at hmin hle
  go_enter Tryz.func65, Tryz.ntmps65
  go_wp2_with fail
  have HV : Hid (some t ≠ (Value.slice a out.length c).ownBlock) := fun e => hn (rowOf_mem.2 e.symm)
  have hkk : (s.extract 0 k).size = k := by simp; omega
  have HR := Lib.hid hr.1
  have HK := Lib.hid hkk
  go_region_law (refine step_append_str rfl (.tmp 10) (.tmp 21) 66 9 rfl 5 i0 Tryz.underlying66 Tryz.underlying9 hi hz h1 h8 (.slice a out.length c) out.length (bytesV out) (by simp [Act.eval, Act.put]; try rfl) HR.out.drew (s.extract 0 k) (by simp [Act.eval, Act.put]; try rfl) (by rw [HK.out]; omega) ?_; intro ba ca w1 hown hgr hat; have d0 := ((hb.drew).grown hgr HV.out).cell 0; have g0 := ((hb.drew).grown hgr HV.out).frozen 0; have HG := Lib.hid (And.intro hown (And.intro hgr hat)); clear hown hgr hat)
  all_goals go_wp2_with fail
  all_goals go_end0
  all_goals exact ⟨_, rfl, say_end hb hr hn hk (by have h := HG.out.1; rw [HK.out] at h; exact h) HG.out.2.1 (by have h := HG.out.2.2; rw [HK.out] at h; exact h)⟩
end Go.Proofs.YtkbchpaofmlhgaaGreatDoor

/- The state's Say, Out, Base, Stack, Mem. -/
namespace Go.Proofs.YtkbchpaofmlhgaaGreatDoor
open Go.RowKit

theorem nums_str (s : ByteArray) : strOfNums (strL s) = s := by
  apply ByteArray.ext
  apply Array.ext'
  rw [strOfNums_data, strL, List.map_map]
  exact (List.map_congr_left (fun b _ => by simp)).trans (List.map_id _)
theorem str_nums {l : List Int} (h : Bytes l) : strL (strOfNums l) = l := by
  unfold strL
  rw [strOfNums_data, List.map_map]
  refine (List.map_congr_left (g := id) (fun x hx => ?_)).trans (List.map_id _)
  have hx := h x hx
  simp only [Function.comp, id]
  rw [UInt8.toNat_ofNat']
  omega
theorem row_text {w : World} {v : Value} {l : List Int} (h : BRow w v l) : (convert 66 9 v).run Tryz.prog w = .ok (.string (strOfNums l)) w := by
  rcases h.1.2 with ⟨rfl, h0⟩ | ⟨g, cap, cur, rfl, _⟩
  · obtain rfl := List.eq_nil_of_length_eq_zero h0
    exact run_convert_bytes_zero w _ _ Tryz.underlying66 Tryz.underlying5 none 0 _ Tryz.underlying9
  · refine run_convert_bytes_arg (P := Tryz.prog) w _ _ Tryz.underlying66 Tryz.underlying5 g 0 l.length cap l rfl (fun i hi => ?_) _ Tryz.underlying9
    have := h.1.cells (g := g) rfl i (.int .u8 (l.getD i 0)) (by simp [bytesV, List.getD, List.getElem?_eq_getElem hi])
    rw [add_off] at this
    exact this

section
variable {w w' : World} {s : Nat} {F FS : List Nat} {ov mv : Value} {S : PS}
theorem Parts.t_apart (h : Parts w s FS ov mv S) : S.t ∉ rowOf ov := fun hm => h.tel.ty.ne (row_ty h.out.1 _ hm) (by decide) rfl
/-- more is told -/
theorem Parts.told {ov' : Value} {out' : List Int} (h : Parts w s FS ov mv S) (hb : Blk w' S.t 81 #[ov']) (hr : BRow w' ov' out') (t : Touch (S.t :: rowOf ov) w w') (hs : ∀ x ∈ rowOf ov', x ∈ rowOf ov ∨ w.heap.size ≤ x) : Parts w' s FS ov' mv { S with out := out' } := by
  have key : ∀ a ty, TyAt w a ty → ty ≠ 81 → a ∉ rowOf ov → a ∉ S.t :: rowOf ov := fun a ty ha h1 h2 hf => by
    rcases List.mem_cons.1 hf with rfl | hf
    · exact ha.ne h.tel.ty h1 rfl
    · exact h2 hf
  obtain ⟨a1, a2, a3, a4, a5, a6⟩ := h.stk_apart
  have hg : S.g ∉ rowOf ov' := fun hm => by
    rcases hs _ hm with h1 | h1
    · exact h.go h1
    · have := h.mem.row.lt; omega
  refine ⟨h.blk.touch t (key _ _ h.blk.ty (by decide) (fun hm => h.blk.ty.ne (row_ty h.out.1 _ hm) (by decide) rfl)), hb, h.stk.touch t (fun f hf hm => ?_), h.mem.touch t (key _ _ h.mem.blk.ty (by decide) (fun hm => h.mem.blk.ty.ne (row_ty h.out.1 _ hm) (by decide) rfl)) (key _ _ h.mem.row.ty (by decide) h.go), hr, ⟨row_touch h.made.1 t (fun x hx => key _ _ (row_ty h.made.1 x hx) (by decide) (fun hm => h.om x hm hx)), h.made.2⟩, hg, h.gm, fun x hx hm => ?_⟩
  · rcases List.mem_cons.1 hm with rfl | hm
    · exact a2 hf
    · exact a5 _ hm hf
  · rcases hs _ hx with h1 | h1
    · exact h.om x h1 hm
    · have := row_lt h.made.1 hm; omega
theorem foot_told {ov' : Value} {out' : List Int} (hs : ∀ x ∈ rowOf ov', x ∈ rowOf ov ∨ w.heap.size ≤ x) : Sub w (foot s S FS ov mv) (foot s { S with out := out' } FS ov' mv) := by
  intro f hf
  simp only [foot, List.mem_cons, List.mem_append] at hf ⊢
  rcases hf with h | h | h | h | h | h | h
  · exact .inl (.inl h)
  · exact .inl (.inr (.inl h))
  · exact .inl (.inr (.inr (.inl h)))
  · exact .inl (.inr (.inr (.inr (.inl h))))
  · exact .inl (.inr (.inr (.inr (.inr (.inl h)))))
  · rcases hs f h with h | h
    · exact .inl (.inr (.inr (.inr (.inr (.inr (.inl h))))))
    · exact .inr h
  · exact .inl (.inr (.inr (.inr (.inr (.inr (.inr h))))))
theorem foot_has_out : ∀ x ∈ S.t :: rowOf ov, x ∈ foot s S FS ov mv := fun x hx => by
  rcases List.mem_cons.1 hx with rfl | hx
  · simp [foot]
  · simp [foot, hx]

theorem PSay_any (h : StateAt w s F S) (hl : S.out.length ≤ 4000) (x : ByteArray) :
    Calls Tryz.prog 36 #[.pointer (some ⟨s, 0, none⟩), .string x] w fun e w' => ∃ F', e = .returned (.tuple #[]) ∧ StateAt w' s F' { S with out := sayL S.out x } ∧ Touch F w w' ∧ Sub w F F' := by
  obtain ⟨FS, ov, mv, hp, rfl⟩ := h
  have hT := TSay_any w S.t ov S.out hp.tel hp.out hp.t_apart hl x
  have s0 := hp.blk.cell 0
  have HP := Lib.hid hp
  clear hp
  go_enter Tryz.func36, Tryz.ntmps36
  go_wp2_with fail
  refine hT.mono ?_
  rintro _ w1 ⟨v', rfl, k1, k2, t1, k3⟩
  have hfin := HP.out.told k1 k2 t1 k3
  have HF := Lib.hid (And.intro hfin (And.intro (t1.mono (G := foot s S FS ov mv) (fun g hg => .inl (foot_has_out g hg))) (foot_told (s := s) (S := S) (FS := FS) (mv := mv) (out' := sayL S.out x) k3)))
  clear hT hfin k1 k2 t1 k3 s0
  go_wp2_with fail
  go_end0
  exact ⟨_, rfl, ⟨_, _, _, HF.out.1, rfl⟩, HF.out.2.1, HF.out.2.2⟩
theorem POut_any (h : StateAt w s F S) : Calls Tryz.prog 17 #[.pointer (some ⟨s, 0, none⟩)] w fun e w' => e = .returned (.string (strOfNums S.out)) ∧ w = w' := by
  obtain ⟨FS, ov, mv, hp, rfl⟩ := h
  have s0 := hp.blk.cell 0
  have t0 := hp.tel.cell 0
  have hc := row_text hp.out
  clear hp
  have hT : Calls Tryz.prog 46 #[.pointer (some ⟨S.t, 0, none⟩)] w fun e w' => e = .returned (.string (strOfNums S.out)) ∧ w = w' := by
    go_enter Tryz.func46, Tryz.ntmps46
    go_wp2_with fail
    go_ret
    exact ⟨rfl, rfl⟩
  clear t0 hc
  go_enter Tryz.func17, Tryz.ntmps17
  go_wp2_with fail
  refine hT.mono ?_
  rintro _ _ ⟨rfl, rfl⟩
  go_wp2_with fail
  go_ret
  exact ⟨rfl, rfl⟩
theorem PStack_any (h : StateAt w s F S) : Calls Tryz.prog 12 #[.pointer (some ⟨s, 0, none⟩)] w fun e w' => e = .returned (.pointer (some ⟨S.k, 0, none⟩)) ∧ w = w' := by
  obtain ⟨FS, ov, mv, hp, rfl⟩ := h
  have s0 := hp.blk.cell 1
  clear hp
  go_enter Tryz.func12, Tryz.ntmps12
  go_wp2_with fail
  go_ret
  exact ⟨rfl, rfl⟩
theorem PMem_any (h : StateAt w s F S) : Calls Tryz.prog 31 #[.pointer (some ⟨s, 0, none⟩)] w fun e w' => e = .returned (.pointer (some ⟨S.m, 0, none⟩)) ∧ w = w' := by
  obtain ⟨FS, ov, mv, hp, rfl⟩ := h
  have s0 := hp.blk.cell 2
  clear hp
  go_enter Tryz.func31, Tryz.ntmps31
  go_wp2_with fail
  go_ret
  exact ⟨rfl, rfl⟩
/-- the base that is written -/
def PS.base (S : PS) : Int := getF S.bs 0
theorem Base_ok (h : StateAt w s F S) (hn : 1024 ≤ S.n) (hb : 2 ≤ S.base ∧ S.base ≤ 36) : Calls Tryz.prog 18 #[.pointer (some ⟨s, 0, none⟩)] w fun e w' => e = .returned (.tuple #[.int .i64 S.base, .int .i64 0]) ∧ Touch [] w w' := by
  obtain ⟨FS, ov, mv, hp, rfl⟩ := h
  have s2 := hp.blk.cell 2
  have hG := Get_ok hp.mem 0 (by omega) (by decide)
  have e : getF S.bs 0 = S.base := rfl
  rw [e] at hG
  clear e hp
  generalize S.base = b at *
  have g1 : ¬ b < 2 := by omega
  have g2 : ¬ b > 36 := by omega
  go_enter Tryz.func18, Tryz.ntmps18
  go_wp2_with fail
  refine hG.mono ?_
  rintro _ w1 ⟨rfl, t1⟩
  clear hG
  go_wp2_with fail
  go_ret2
  exact ⟨rfl, t1⟩
theorem Base_bad (h : StateAt w s F S) (hn : 1024 ≤ S.n) (hb : ¬ (2 ≤ S.base ∧ S.base ≤ 36)) : Calls Tryz.prog 18 #[.pointer (some ⟨s, 0, none⟩)] w fun e w' => e = .returned (.tuple #[.int .i64 0, .int .i64 (-40)]) ∧ Touch [] w w' := by
  obtain ⟨FS, ov, mv, hp, rfl⟩ := h
  have s2 := hp.blk.cell 2
  have hG := Get_ok hp.mem 0 (by omega) (by decide)
  have e : getF S.bs 0 = S.base := rfl
  rw [e] at hG
  clear e hp
  generalize S.base = b at *
  by_cases g1 : b < 2
  all_goals try have g2 : b > 36 := by omega
  all_goals
    go_enter Tryz.func18, Tryz.ntmps18
    go_wp2_with fail
    refine hG.mono ?_
    rintro _ w1 ⟨rfl, t1⟩
    clear hG
    go_wp2_with fail
    go_ret2
    exact ⟨rfl, t1⟩
end
end Go.Proofs.YtkbchpaofmlhgaaGreatDoor

/- The memory: texts, bytes. -/
namespace Go.Proofs.YtkbchpaofmlhgaaGreatDoor
open Go.RowKit

section
variable {w w' : World} {m g n here : Nat} {bs : List Int}
def cutL (bs : List Int) (p k : Nat) : List Int := (bs.drop p).take k
theorem cutL_len {bs : List Int} {p k : Nat} (h : p + k ≤ bs.length) : (cutL bs p k).length = k := by unfold cutL; rw [List.length_take, List.length_drop]; omega
theorem cutL_bytes (h : Bytes bs) (p k : Nat) : Bytes (cutL bs p k) := fun x hx => h x (List.mem_of_mem_drop (List.mem_of_mem_take hx))
theorem cutL_get {bs : List Int} {p k i : Nat} (hi : i < k) : (cutL bs p k).getD i 0 = bs.getD (p + i) 0 := by
  unfold cutL
  simp [List.getD, hi, List.getElem?_drop]
theorem MText_ok (h : MemAt w m g n bs here) (p k : Nat) (hk : p + k ≤ n) : Calls Tryz.prog 32 #[.pointer (some ⟨m, 0, none⟩), .int .i64 p, .int .i64 k] w fun e w' => e = .returned (.tuple #[.string (strOfNums (cutL bs p k)), .int .i64 0]) ∧ Touch [] w w' := by
  have hP := piece_ok h p k hk
  have hconv : ∀ a W, (0 < k → a = (⟨g, p, none⟩ : Addr)) → Touch [] w W → (convert 66 9 (.slice (some a) k k)).run Tryz.prog W = .ok (.string (strOfNums (cutL bs p k))) W := by
    intro a W ha t
    rcases Nat.eq_zero_or_pos k with rfl | h0
    · rw [run_convert_bytes_zero W _ _ Tryz.underlying66 Tryz.underlying5 (some a) 0 _ Tryz.underlying9]
      rfl
    · rw [ha h0]
      refine run_convert_bytes_arg (P := Tryz.prog) W _ _ Tryz.underlying66 Tryz.underlying5 g p k k _ (cutL_len (by rw [h.len]; exact hk)) (fun i hi => ?_) _ Tryz.underlying9
      rw [cutL_get hi]
      exact (h.touch t (by simp) (by simp)).cell (by omega)
  clear h
  obtain ⟨q, hq⟩ : ∃ q, strOfNums (cutL bs p k) = q := ⟨_, rfl⟩
  rw [hq] at hconv ⊢
  clear hq
  go_enter Tryz.func32, Tryz.ntmps32
  go_wp2_with fail
  refine hP.mono ?_
  rintro _ w1 ⟨a, rfl, ha, t1⟩
  have hc := hconv a w1 ha t1
  clear hconv hP ha
  go_wp2_with fail
  go_ret2
  exact ⟨rfl, t1⟩
theorem MText_bad (h : MemAt w m g n bs here) (p k : Int) (hk : p < 0 ∨ n < p ∨ k < 0 ∨ n - p < k) : Calls Tryz.prog 32 #[.pointer (some ⟨m, 0, none⟩), .int .i64 p, .int .i64 k] w fun e w' => e = .returned (.tuple #[.string .empty, .int .i64 (-9)]) ∧ Touch [] w w' := by
  have hP := piece_bad h p k hk
  have hc := fun W => run_convert_bytes_nil (P := Tryz.prog) W _ _ Tryz.underlying66 Tryz.underlying5 0 0 _ Tryz.underlying9
  clear h hk
  go_enter Tryz.func32, Tryz.ntmps32
  go_wp2_with fail
  refine hP.mono ?_
  rintro _ w1 ⟨rfl, t1⟩
  clear hP
  go_wp2_with fail
  go_ret2
  exact ⟨rfl, t1⟩
/-- bytes that are written -/
def wrtL (bs : List Int) (p : Nat) (l : List Int) : List Int := bs.take p ++ l ++ bs.drop (p + l.length)
theorem wrtL_len {bs l : List Int} {p : Nat} (h : p + l.length ≤ bs.length) : (wrtL bs p l).length = bs.length := by
  unfold wrtL
  simp only [List.length_append, List.length_take, List.length_drop]
  omega
theorem wrtL_bytes {l : List Int} (h : Bytes bs) (k : Bytes l) (p : Nat) : Bytes (wrtL bs p l) := by
  unfold wrtL
  exact Bytes.append (Bytes.append (fun x hx => h x (List.mem_of_mem_take hx)) k) (fun x hx => h x (List.mem_of_mem_drop hx))
theorem copy_mem (h : MemAt w m g n bs here) (p : Nat) (s : ByteArray) (hk : p + s.size ≤ n) (a : Addr) (ha : 0 < s.size → a = ⟨g, p, none⟩) :
    ∃ v w', (Builtin.copy_ #[66, 9] 3 #[.slice (some a) s.size s.size, .string s]).run Tryz.prog w = .ok v w' ∧ MemAt w' m g n (wrtL bs p (strL s)) here ∧ Touch [g] w w' := by
  obtain ⟨i0, hi, _, hz1, _⟩ := info_byte'
  rcases Nat.eq_zero_or_pos s.size with h0 | h0
  · refine ⟨_, _, Lib.run_copy_empty_string w _ _ _ 5 (some a) _ _ s Tryz.underlying66 (by rw [hi]; rfl) h0, ?_, Touch.refl _ _⟩
    have : strL s = [] := List.eq_nil_of_length_eq_zero (by rw [strL_len]; exact h0)
    rw [this]
    have e : wrtL bs p [] = bs := by simp [wrtL]
    rw [e]
    exact h
  · rw [ha h0]
    have hsz : (bytesV bs).toArray.size = n := by simp [bytesV, h.len]
    refine ⟨_, _, Lib.run_copy_row_string w _ _ _ 5 g p _ _ s _ 5 Tryz.underlying66 (by rw [hi]; simp [hz1]) h.row (Nat.le_refl _) (by rw [hsz]; exact hk), ⟨?_, ?_, ?_, wrtL_bytes h.byte (strL_bytes s) p, h.small, h.low⟩, ⟨rfl, rfl, rfl, by simp, fun k hk hn => setRow_other w g k _ (by simpa using hn)⟩⟩
    · show _ = _
      rw [setRow_other w g m _ h.ne]
      exact h.blk
    · have h1 := setRow_heap w g _ (((bytesV bs).toArray.toList.take p ++ Lib.byteCells s.data.toList ++ (bytesV bs).toArray.toList.drop (p + s.size)).toArray) _ _ h.row
      have e : ((bytesV bs).toArray.toList.take p ++ Lib.byteCells s.data.toList ++ (bytesV bs).toArray.toList.drop (p + s.size)).toArray = (bytesV (wrtL bs p (strL s))).toArray := by
        have e2 : bytesV (wrtL bs p (strL s)) = (bytesV bs).take p ++ Lib.byteCells s.data.toList ++ (bytesV bs).drop (p + s.size) := by
          have e3 : bytesV (strL s) = Lib.byteCells s.data.toList := strL_cells s
          unfold wrtL
          rw [bytesV_append, bytesV_append, strL_len, e3]
          unfold bytesV
          rw [List.map_take, List.map_drop]
        rw [e2]
      unfold Blk
      rw [← e]
      exact h1
    · rw [wrtL_len (by rw [strL_len, h.len]; exact hk), h.len]
theorem MWrite_ok (h : MemAt w m g n bs here) (p : Nat) (s : ByteArray) (hk : p + s.size ≤ n) : Calls Tryz.prog 67 #[.pointer (some ⟨m, 0, none⟩), .int .i64 p, .string s] w fun e w' => e = .returned (.int .i64 0) ∧ MemAt w' m g n (wrtL bs p (strL s)) here ∧ Touch [g] w w' := by
  have hP := piece_ok h p s.size hk
  have H := Lib.hid h
  clear h
  go_enter Tryz.func67, Tryz.ntmps67
  go_wp2_with fail
  refine hP.mono ?_
  rintro _ w1 ⟨a, rfl, ha, t1⟩
  obtain ⟨v, w2, hr, hm, t2⟩ := copy_mem (H.out.touch t1 (by simp) (by simp)) p s hk a ha
  have HF := Lib.hid (And.intro hm ((t1.mono (G := [g]) (by simp)).trans t2 (fun x hx => .inl hx)))
  clear hP ha t1 hm t2
  go_wp2_with (at_builtin; refine Lib.wpList_copy_run _ rfl _ _ 66 9 rfl _ _ rfl rfl hr ?_)
  go_ret
  exact ⟨rfl, HF.out⟩
/-- the same byte often -/
def filL (bs : List Int) (p : Nat) (c : Int) : Nat → List Int
  | 0 => bs
  | i + 1 => (filL bs p c i).set (p + i) c
theorem filL_len (bs : List Int) (p : Nat) (c : Int) : ∀ i, (filL bs p c i).length = bs.length
  | 0 => rfl
  | i + 1 => by rw [filL, List.length_set, filL_len bs p c i]
set_option maxHeartbeats 1000000 in
theorem MFill_ok (h : MemAt w m g n bs here) (p k : Nat) (c : Int) (hc : 0 ≤ c ∧ c ≤ 255) (hk : p + k ≤ n) : Calls Tryz.prog 150 #[.pointer (some ⟨m, 0, none⟩), .int .i64 p, .int .i64 k, .int .u8 c] w fun e w' => e = .returned (.int .i64 0) ∧ MemAt w' m g n (filL bs p c k) here ∧ Touch [g] w w' := by
  have hP := piece_ok h p k hk
  have hs := h.small
  have H := Lib.hid h
  have HC := Lib.hid hc
  clear h hc
  go_enter Tryz.func150, Tryz.ntmps150
  go_wp2_with fail
  refine hP.mono ?_
  rintro _ w1 ⟨a, rfl, ha, t1⟩
  clear hP
  go_wp2_with fail
  have hm1 := H.out.touch t1 (by simp) (by simp)
  have t1' := t1.mono (G := [g]) (by simp)
  have HA := Lib.hid ha
  clear ha t1
  go_loopw [21] (fun i wr => ∃ j : Nat, j ≤ k ∧ i = .int .i64 j ∧ MemAt wr m g n (filL bs p c j) here ∧ Touch [g] w wr) (fun i _ => k - (intOf i).toNat)
  case atStart => exact ⟨0, Nat.zero_le _, rfl, hm1, t1'⟩
  case round =>
    obtain ⟨j, hj, rfl, hm, t2⟩ := hrel
    clear hm1 t1'
    by_cases hlt : j < k
    · have hlt2 : (j : Int) < k := by omega
      obtain rfl := HA.out (by omega)
      have ej : IntKind.i64.wrap ((j : Int) + 1) = (j + 1 : Nat) := by rw [IntKind.wrap_i64]; omega
      have hcell := hm.cell (i := p + j) (by omega)
      have hfz := hm.row.frozen (p + j)
      have HF := Lib.hid (And.intro (hm.store (p + j) HC.out) (t2.setCell (p := ⟨g, p + j, none⟩) (by simp) (.int .u8 c)))
      clear hm t2
      go_wp2_with fail
      go_roundw
      case rel => exact ⟨j + 1, by omega, vint (by omega), HF.out.1, HF.out.2⟩
      case measure => simp only [intOf]; omega
    · obtain rfl : j = k := by omega
      have HF := Lib.hid (And.intro hm t2)
      clear hm t2 hlt
      go_wp2_with fail
      go_ret
      exact ⟨rfl, HF.out⟩
theorem MGetByte_ok (h : MemAt w m g n bs here) (p : Nat) (hp : p < n) : Calls Tryz.prog 141 #[.pointer (some ⟨m, 0, none⟩), .int .i64 p] w fun e w' => e = .returned (.tuple #[.int .u8 (bs.getD p 0), .int .i64 0]) ∧ Touch [] w w' := by
  have hP := piece_ok h p 1 (by omega)
  have H := Lib.hid h
  clear h
  go_enter Tryz.func141, Tryz.ntmps141
  go_wp2_with fail
  refine hP.mono ?_
  rintro _ w1 ⟨a, rfl, ha, t1⟩
  obtain rfl := ha (by decide)
  have hcell := (H.out.touch t1 (by simp) (by simp)).cell hp
  clear hP ha
  go_wp2_with fail
  go_ret2
  exact ⟨rfl, t1⟩
theorem MPutByte_ok (h : MemAt w m g n bs here) (p : Nat) (c : Int) (hc : 0 ≤ c ∧ c ≤ 255) (hp : p < n) : Calls Tryz.prog 145 #[.pointer (some ⟨m, 0, none⟩), .int .i64 p, .int .u8 c] w fun e w' => e = .returned (.int .i64 0) ∧ MemAt w' m g n (bs.set p c) here ∧ Touch [g] w w' := by
  have hF := MFill_ok h p 1 c hc (by omega)
  clear h
  go_enter Tryz.func145, Tryz.ntmps145
  go_wp2_with fail
  refine hF.mono ?_
  rintro _ w1 ⟨rfl, hm, t1⟩
  clear hF
  go_wp2_with fail
  go_ret
  exact ⟨rfl, hm, t1⟩
end
end Go.Proofs.YtkbchpaofmlhgaaGreatDoor

/- The contracts of package cell: the words that are done to two cells. -/
namespace Go.Proofs.YtkbchpaofmlhgaaGreatDoor
open Go.RowKit

/-- a quotient, rounded down, and what is left -/
def flooredF (a b : Int) : Int × Int :=
  if a.tmod b = 0 ∨ 0 ≤ bits .xor .i64 (a.tmod b) b then (wrap64 (a.tdiv b), a.tmod b) else (wrap64 (wrap64 (a.tdiv b) - 1), wrap64 (a.tmod b + b))
theorem tmod_cell (a b : Int) (h : Cell64 a) : Cell64 (a.tmod b) := by
  unfold Cell64 at *
  rcases Int.le_total 0 a with h0 | h0
  · have h1 := Int.tmod_nonneg (a := a) b h0
    have h2 : a.tmod b ≤ a := by
      have := Int.natAbs_tmod a b
      have h3 : (a.tmod b).natAbs ≤ a.natAbs := by rw [this]; exact Nat.mod_le _ _
      omega
    omega
  · have h3 : (a.tmod b).natAbs ≤ a.natAbs := by rw [Int.natAbs_tmod]; exact Nat.mod_le _ _
    have h4 : a.tmod b ≤ 0 := by
      have := Int.tmod_nonneg (a := -a) b (by omega)
      rw [Int.neg_tmod] at this
      omega
    omega
theorem flooredF_cell (a b : Int) (h : Cell64 a) : Cell64 (flooredF a b).1 ∧ Cell64 (flooredF a b).2 := by
  unfold flooredF
  split
  · exact ⟨wrap64_cell _, tmod_cell a b h⟩
  · exact ⟨wrap64_cell _, wrap64_cell _⟩

theorem floored_any (a b : Int) (hb : ¬ b = 0) (w : World) : Calls Tryz.prog 191 #[.int .i64 a, .int .i64 b] w fun e w' =>
    e = .returned (.tuple #[.int .i64 (flooredF a b).1, .int .i64 (flooredF a b).2]) ∧ Touch [] w w' := by
  unfold flooredF
  by_cases h1 : a.tmod b = 0
  · rw [if_pos (.inl h1)]
    go_enter Tryz.func191, Tryz.ntmps191
    go_wp2
    go_quiet (fail)
    go_wp2
    all_goals go_ret2
    all_goals refine ⟨?_, (Touch.refl _ _).drewN _⟩
    all_goals first | rfl | (rw [h1]; rfl)
  have h1' : (a.tmod b != 0) = true := by simp [h1]
  by_cases h2 : 0 ≤ bits .xor .i64 (a.tmod b) b
  · rw [if_pos (.inr h2)]
    have h2' : ¬ bits .xor .i64 (a.tmod b) b < 0 := by omega
    go_enter Tryz.func191, Tryz.ntmps191
    go_wp2
    go_quiet (fail)
    go_wp2
    all_goals go_ret2
    all_goals exact ⟨rfl, (Touch.refl _ _).drewN _⟩
  · rw [if_neg (by omega)]
    have h2' : bits .xor .i64 (a.tmod b) b < 0 := by omega
    go_enter Tryz.func191, Tryz.ntmps191
    go_wp2
    go_quiet (fail)
    go_wp2
    all_goals go_ret2
    all_goals exact ⟨rfl, (Touch.refl _ _).drewN _⟩

def Does2 (f : FuncId) (a b r : Int) (w : World) : Prop := Calls Tryz.prog f #[.int .i64 a, .int .i64 b] w fun e w' => e = .returned (.int .i64 r) ∧ Touch [] w w'
theorem D1 (a b : Int) (w : World) : Does2 187 a b (wrap64 (a + b)) w := by
  unfold Does2
  go_enter Tryz.func187, Tryz.ntmps187
  go_wp2
  go_ret
  exact ⟨rfl, Touch.refl _ _⟩
theorem D2 (a b : Int) (w : World) : Does2 188 a b (wrap64 (a - b)) w := by
  unfold Does2
  go_enter Tryz.func188, Tryz.ntmps188
  go_wp2
  go_ret
  exact ⟨rfl, Touch.refl _ _⟩
theorem D3 (a b : Int) (w : World) : Does2 189 a b (wrap64 (a * b)) w := by
  unfold Does2
  go_enter Tryz.func189, Tryz.ntmps189
  go_wp2
  go_ret
  exact ⟨rfl, Touch.refl _ _⟩
theorem D4 (a b : Int) (hb : ¬ b = 0) (w : World) : Does2 190 a b (flooredF a b).1 w := by
  unfold Does2
  have hT := fun w => floored_any a b hb w
  generalize flooredF a b = r at hT ⊢
  go_enter Tryz.func190, Tryz.ntmps190
  go_wp2_with fail
  refine (hT _).mono ?_
  rintro _ w1 ⟨rfl, t1⟩
  go_wp2
  go_ret
  exact ⟨rfl, t1⟩
theorem D5 (a b : Int) (hb : ¬ b = 0) (w : World) : Does2 192 a b (flooredF a b).2 w := by
  unfold Does2
  have hT := fun w => floored_any a b hb w
  generalize flooredF a b = r at hT ⊢
  go_enter Tryz.func192, Tryz.ntmps192
  go_wp2_with fail
  refine (hT _).mono ?_
  rintro _ w1 ⟨rfl, t1⟩
  go_wp2
  go_ret
  exact ⟨rfl, t1⟩
theorem D6 (a b : Int) (w : World) : Does2 193 a b (bits .and .i64 a b) w := by
  unfold Does2
  go_enter Tryz.func193, Tryz.ntmps193
  go_wp2
  go_ret
  exact ⟨rfl, Touch.refl _ _⟩
theorem D7 (a b : Int) (w : World) : Does2 194 a b (bits .or .i64 a b) w := by
  unfold Does2
  go_enter Tryz.func194, Tryz.ntmps194
  go_wp2
  go_ret
  exact ⟨rfl, Touch.refl _ _⟩
theorem D8 (a b : Int) (w : World) : Does2 195 a b (bits .xor .i64 a b) w := by
  unfold Does2
  go_enter Tryz.func195, Tryz.ntmps195
  go_wp2
  go_ret
  exact ⟨rfl, Touch.refl _ _⟩
theorem D9 (a b : Int) (w : World) : Does2 196 a b (wrap64 (a * 2 ^ min (IntKind.u64.wrap b).toNat 64)) w := by
  unfold Does2
  go_enter Tryz.func196, Tryz.ntmps196
  go_wp2
  go_ret
  exact ⟨rfl, Touch.refl _ _⟩
theorem D10 (a b : Int) (w : World) : Does2 197 a b (wrap64 (IntKind.u64.wrap a / 2 ^ min (IntKind.u64.wrap b).toNat 64)) w := by
  unfold Does2
  go_enter Tryz.func197, Tryz.ntmps197
  go_wp2
  go_ret
  exact ⟨rfl, Touch.refl _ _⟩
theorem D11 (a b : Int) (w : World) : Does2 198 a b (truthF (decide (a = b))) w := by
  unfold Does2
  have hT := fun b w => Truth_any b w
  go_enter Tryz.func198, Tryz.ntmps198
  go_wp2_with fail
  refine (hT _ _).mono ?_
  rintro _ _ ⟨rfl, rfl⟩
  go_wp2
  go_ret
  exact ⟨rfl, Touch.refl _ _⟩
theorem D12 (a b : Int) (w : World) : Does2 199 a b (truthF (!decide (a = b))) w := by
  unfold Does2
  have hT := fun b w => Truth_any b w
  go_enter Tryz.func199, Tryz.ntmps199
  go_wp2_with fail
  refine (hT _ _).mono ?_
  rintro _ _ ⟨rfl, rfl⟩
  go_wp2
  go_ret
  exact ⟨rfl, Touch.refl _ _⟩
theorem D13 (a b : Int) (w : World) : Does2 200 a b (truthF (decide (a < b))) w := by
  unfold Does2
  have hT := fun b w => Truth_any b w
  go_enter Tryz.func200, Tryz.ntmps200
  go_wp2_with fail
  refine (hT _ _).mono ?_
  rintro _ _ ⟨rfl, rfl⟩
  go_wp2
  go_ret
  exact ⟨rfl, Touch.refl _ _⟩
theorem D14 (a b : Int) (w : World) : Does2 201 a b (truthF (decide (b < a))) w := by
  unfold Does2
  have hT := fun b w => Truth_any b w
  go_enter Tryz.func201, Tryz.ntmps201
  go_wp2_with fail
  refine (hT _ _).mono ?_
  rintro _ _ ⟨rfl, rfl⟩
  go_wp2
  go_ret
  exact ⟨rfl, Touch.refl _ _⟩
theorem D15 (a b : Int) (w : World) : Does2 202 a b (truthF (decide (IntKind.u64.wrap a < IntKind.u64.wrap b))) w := by
  unfold Does2
  have hT := fun b w => Truth_any b w
  go_enter Tryz.func202, Tryz.ntmps202
  go_wp2_with fail
  refine (hT _ _).mono ?_
  rintro _ _ ⟨rfl, rfl⟩
  go_wp2
  go_ret
  exact ⟨rfl, Touch.refl _ _⟩
theorem D16 (a b : Int) (w : World) : Does2 203 a b (if a < b then a else b) w := by
  unfold Does2
  go_enter Tryz.func203, Tryz.ntmps203
  go_wp2
  all_goals go_ret
  all_goals refine ⟨ret1 (vint ?_), Touch.refl _ _⟩
  all_goals first | rfl | omega | (split <;> omega)
theorem D17 (a b : Int) (w : World) : Does2 204 a b (if b < a then a else b) w := by
  unfold Does2
  go_enter Tryz.func204, Tryz.ntmps204
  go_wp2
  all_goals go_ret
  all_goals refine ⟨ret1 (vint ?_), Touch.refl _ _⟩
  all_goals first | rfl | omega | (split <;> omega)

/-- what is done to two cells, by its number -/
def twoF (op a b : Int) : Int :=
  if op = 11 then wrap64 (a + b)
  else if op = 12 then wrap64 (a - b)
  else if op = 13 then wrap64 (a * b)
  else if op = 14 then (flooredF a b).1
  else if op = 15 then (flooredF a b).2
  else if op = 16 then bits .and .i64 a b
  else if op = 17 then bits .or .i64 a b
  else if op = 18 then bits .xor .i64 a b
  else if op = 19 then wrap64 (a * 2 ^ min (IntKind.u64.wrap b).toNat 64)
  else if op = 20 then wrap64 (IntKind.u64.wrap a / 2 ^ min (IntKind.u64.wrap b).toNat 64)
  else if op = 21 then truthF (decide (a = b))
  else if op = 22 then truthF (!decide (a = b))
  else if op = 23 then truthF (decide (a < b))
  else if op = 24 then truthF (decide (b < a))
  else if op = 25 then truthF (decide (IntKind.u64.wrap a < IntKind.u64.wrap b))
  else if op = 26 then (if a < b then a else b)
  else (if b < a then a else b)
theorem ite_cell {p : Prop} [Decidable p] {x y : Int} (hx : Cell64 x) (hy : Cell64 y) : Cell64 (if p then x else y) := by
  split
  · exact hx
  · exact hy
theorem twoF_cell (op a b : Int) (h : Cell64 a) (k : Cell64 b) : Cell64 (twoF op a b) := by
  have f := flooredF_cell a b h
  have f1 := f.1
  have f2 := f.2
  have t := truthF_cell
  have wr := wrap64_cell
  have bi := bitwise_cell
  clear f
  unfold twoF
  generalize flooredF a b = fl at *
  repeat' first | assumption | apply wr | apply t | apply bi | apply ite_cell

def fv (f : FuncId) : Value := .func (.func f) #[] #[]
def fnOf (op : Nat) : FuncId := [187, 188, 189, 190, 192, 193, 194, 195, 196, 197, 198, 199, 200, 201, 202, 203, 204].getD (op - 11) 0
def doesL : List (Int × Value) := [(11, fv 187), (12, fv 188), (13, fv 189), (14, fv 190), (15, fv 192), (16, fv 193), (17, fv 194), (18, fv 195), (19, fv 196), (20, fv 197), (21, fv 198), (22, fv 199), (23, fv 200), (24, fv 201), (25, fv 202), (26, fv 203), (27, fv 204)]

theorem fn_does (op : Nat) (h : 11 ≤ op ∧ op ≤ 27) (a b : Int) (hb : ¬ (b = 0 ∧ (op = 14 ∨ op = 15))) (w : World) : Does2 (fnOf op) a b (twoF op a b) w := by
  rcases (by omega : op = 11 ∨ op = 12 ∨ op = 13 ∨ op = 14 ∨ op = 15 ∨ op = 16 ∨ op = 17 ∨ op = 18 ∨ op = 19 ∨ op = 20 ∨ op = 21 ∨ op = 22 ∨ op = 23 ∨ op = 24 ∨ op = 25 ∨ op = 26 ∨ op = 27) with rfl | rfl | rfl | rfl | rfl | rfl | rfl | rfl | rfl | rfl | rfl | rfl | rfl | rfl | rfl | rfl | rfl
  · exact D1 a b w
  · exact D2 a b w
  · exact D3 a b w
  · exact D4 a b (fun e => hb ⟨e, by simp⟩) w
  · exact D5 a b (fun e => hb ⟨e, by simp⟩) w
  · exact D6 a b w
  · exact D7 a b w
  · exact D8 a b w
  · exact D9 a b w
  · exact D10 a b w
  · exact D11 a b w
  · exact D12 a b w
  · exact D13 a b w
  · exact D14 a b w
  · exact D15 a b w
  · exact D16 a b w
  · exact D17 a b w

set_option maxRecDepth 100000 in
set_option maxHeartbeats 4000000 in
theorem does_any (w : World) : Calls Tryz.prog 96 #[] w fun e w' => ∃ b, e = .returned (.map (some b)) ∧ IMap w' b doesL ∧ Touch [] w w' := by
  have tall := (Touch.refl [] w).alloc (.map #[] 0)
  have i0 := IMap.new w
  have hmm := @run_makeMap Tryz.prog
  go_enter Tryz.func96, Tryz.ntmps96
  go_wp2_with (refine wpList_iins _ rfl _ _ _ 138 rfl _ _ Tryz.underlying138 Tryz.underlying3 w.heap.size _ rfl (by first | assumption | exact i0) _ rfl _ rfl ?_; intro wn hn tn; have tall := tall.trans tn (by simp))
  clear hmm
  go_ret
  refine ⟨w.heap.size, rfl, ?_, tall⟩
  exact hn

theorem does_at (op : Nat) (h : 11 ≤ op ∧ op ≤ 27) : atKey doesL op = some (fv (fnOf op)) := by
  rcases (by omega : op = 11 ∨ op = 12 ∨ op = 13 ∨ op = 14 ∨ op = 15 ∨ op = 16 ∨ op = 17 ∨ op = 18 ∨ op = 19 ∨ op = 20 ∨ op = 21 ∨ op = 22 ∨ op = 23 ∨ op = 24 ∨ op = 25 ∨ op = 26 ∨ op = 27) with rfl | rfl | rfl | rfl | rfl | rfl | rfl | rfl | rfl | rfl | rfl | rfl | rfl | rfl | rfl | rfl | rfl <;> rfl

end Go.Proofs.YtkbchpaofmlhgaaGreatDoor

/- The contract of cell.Two. -/
namespace Go.Proofs.YtkbchpaofmlhgaaGreatDoor
open Go.RowKit

theorem fn_enters (op : Nat) (h : 11 ≤ op ∧ op ≤ 27) : Enters Tryz.prog (fnOf op) := by
  rcases (by omega : op = 11 ∨ op = 12 ∨ op = 13 ∨ op = 14 ∨ op = 15 ∨ op = 16 ∨ op = 17 ∨ op = 18 ∨ op = 19 ∨ op = 20 ∨ op = 21 ∨ op = 22 ∨ op = 23 ∨ op = 24 ∨ op = 25 ∨ op = 26 ∨ op = 27) with rfl | rfl | rfl | rfl | rfl | rfl | rfl | rfl | rfl | rfl | rfl | rfl | rfl | rfl | rfl | rfl | rfl
  · exact enters_of Tryz.func187 (by kernel_rfl) rfl
  · exact enters_of Tryz.func188 (by kernel_rfl) rfl
  · exact enters_of Tryz.func189 (by kernel_rfl) rfl
  · exact enters_of Tryz.func190 (by kernel_rfl) rfl
  · exact enters_of Tryz.func192 (by kernel_rfl) rfl
  · exact enters_of Tryz.func193 (by kernel_rfl) rfl
  · exact enters_of Tryz.func194 (by kernel_rfl) rfl
  · exact enters_of Tryz.func195 (by kernel_rfl) rfl
  · exact enters_of Tryz.func196 (by kernel_rfl) rfl
  · exact enters_of Tryz.func197 (by kernel_rfl) rfl
  · exact enters_of Tryz.func198 (by kernel_rfl) rfl
  · exact enters_of Tryz.func199 (by kernel_rfl) rfl
  · exact enters_of Tryz.func200 (by kernel_rfl) rfl
  · exact enters_of Tryz.func201 (by kernel_rfl) rfl
  · exact enters_of Tryz.func202 (by kernel_rfl) rfl
  · exact enters_of Tryz.func203 (by kernel_rfl) rfl
  · exact enters_of Tryz.func204 (by kernel_rfl) rfl

set_option maxHeartbeats 1000000 in
theorem Two_ok (op : Nat) (h : 11 ≤ op ∧ op ≤ 27) (a b : Int) (hb : ¬ (b = 0 ∧ (op = 14 ∨ op = 15))) (w : World) :
    Calls Tryz.prog 77 #[.int .i64 op, .int .i64 a, .int .i64 b] w fun e w' => e = .returned (.tuple #[.int .i64 (twoF op a b), .int .i64 0]) ∧ Touch [] w w' := by
  have hf := fun w => fn_does op h a b hb w
  have hat := does_at op h
  have hent : ∀ (args : Array Value) (w : World), (callFunc (fnOf op) args).run Tryz.prog w = .ok (.enter (fnOf op) args) w := fn_enters op h
  unfold Does2 at hf
  unfold fv at hat
  generalize fnOf op = f at hf hat hent
  generalize twoF op a b = r at hf ⊢
  have hD := does_any w
  obtain ⟨z, hz⟩ : ∃ z : Int, (op : Int) = z := ⟨_, rfl⟩
  have hbz : ¬ (b = 0 ∧ (z = 14 ∨ z = 15)) := by omega
  rw [hz] at hat ⊢
  clear hz h hb
  by_cases hb0 : b = 0
  · have z14 : ¬ z = 14 := by omega
    have z15 : ¬ z = 15 := by omega
    clear hbz
    subst hb0
    go_enter Tryz.func77, Tryz.ntmps77
    go_wp2_with fail
    refine hD.mono ?_
    rintro _ w1 ⟨m, rfl, hm, t1⟩
    have hlk := (hm.lookup Tryz.underlying138 Tryz.underlying3 hat).2
    clear hm hat hD
    have z14' : (z == 14) = false := by simp [z14]
    have z15' : (z == 15) = false := by simp [z15]
    go_wp2_with fail
    refine (hf _).mono ?_
    rintro _ w2 ⟨rfl, t2⟩
    go_wp2
    go_ret2
    exact ⟨rfl, t1.trans t2 (by simp)⟩
  · clear hbz
    go_enter Tryz.func77, Tryz.ntmps77
    go_wp2_with fail
    refine hD.mono ?_
    rintro _ w1 ⟨m, rfl, hm, t1⟩
    have hlk := (hm.lookup Tryz.underlying138 Tryz.underlying3 hat).2
    clear hm hat hD
    go_wp2_with fail
    refine (hf _).mono ?_
    rintro _ w2 ⟨rfl, t2⟩
    go_wp2
    go_ret2
    exact ⟨rfl, t1.trans t2 (by simp)⟩

theorem Two_zero (op : Nat) (h : op = 14 ∨ op = 15) (a : Int) (w : World) :
    Calls Tryz.prog 77 #[.int .i64 op, .int .i64 a, .int .i64 0] w fun e w' => e = .returned (.tuple #[.int .i64 0, .int .i64 (-10)]) ∧ Touch [] w w' := by
  have hat := does_at op (by omega)
  unfold fv at hat
  generalize fnOf op = f at hat
  have hD := does_any w
  obtain ⟨z, hz⟩ : ∃ z : Int, (op : Int) = z := ⟨_, rfl⟩
  have hz2 : z = 14 ∨ z = 15 := by omega
  rw [hz] at hat ⊢
  clear hz h
  rcases hz2 with rfl | rfl
  all_goals go_enter Tryz.func77, Tryz.ntmps77
  all_goals go_wp2_with fail
  all_goals refine hD.mono ?_
  all_goals rintro _ w1 ⟨m, rfl, hm, t1⟩
  all_goals have hlk := (hm.lookup Tryz.underlying138 Tryz.underlying3 hat).2
  all_goals clear hm hat hD
  all_goals go_wp2_with fail
  all_goals go_ret2
  all_goals exact ⟨rfl, t1⟩
end Go.Proofs.YtkbchpaofmlhgaaGreatDoor

/- What the makers' closures do; which one a number finds. -/
namespace Go.Proofs.YtkbchpaofmlhgaaGreatDoor
open Go.RowKit

/-- behind something that was done -/
def Done (W : World) (s : Nat) (F : List Nat) (S S' : PS) (w' : World) : Prop := ∃ F', StateAt w' s F' S' ∧ PS.same S S' ∧ Touch F W w' ∧ Sub W F F'
theorem Done.alloc {W w : World} {s : Nat} {F : List Nat} {S S' : PS} (h : Done W s F S S' w) (o : Obj) : Done W s F S S' (w.alloc o) := by
  obtain ⟨F', h1, h2, h3, h4⟩ := h
  exact ⟨F', h1.quiet ((Touch.refl [] w).alloc o), h2, h3.alloc o, h4⟩
theorem Done.on {W w w' : World} {s : Nat} {F : List Nat} {S S' : PS} (h : Done W s F S S' w) (t : Touch [] w w') : Done W s F S S' w' := by
  obtain ⟨F', h1, h2, h3, h4⟩ := h
  exact ⟨F', h1.quiet t, h2, h3.trans t (by simp), h4⟩
theorem Done.self {W w' : World} {s : Nat} {F : List Nat} {S : PS} (h : StateAt W s F S) (t : Touch [] W w') : Done W s F S S w' := ⟨F, h.quiet t, ⟨rfl, rfl, rfl, rfl, rfl, rfl⟩, t.mono (by simp), Sub.refl _ _⟩
theorem Done.out {W w' : World} {s : Nat} {F : List Nat} {S S' : PS} (h : Done W s F S S' w') : ∃ F', StateAt w' s F' S' ∧ PS.same S S' ∧ Touch F W w' ∧ Sub W F F' := h
def ActDone (W : World) (s : Nat) (F : List Nat) (S : PS) (r : (List Int × Int) × PS) : Ending → World → Prop := fun e w' => ∃ ov, e = .returned (.tuple #[ov, .int .i64 r.1.2]) ∧ CellsAt w' ov r.1.1 ∧ Done W s F S r.2 w'
theorem ActDone.post {P : Program} {f : FuncId} {args : Array Value} {W : World} {s : Nat} {F : List Nat} {S : PS} {r : (List Int × Int) × PS} (h : Calls P f args W (ActDone W s F S r)) :
    Calls P f args W fun e w' => ∃ ov F', e = .returned (.tuple #[ov, .int .i64 r.1.2]) ∧ CellsAt w' ov r.1.1 ∧ StateAt w' s F' r.2 ∧ PS.same S r.2 ∧ Touch F W w' ∧ Sub W F F' :=
  h.mono fun _ _ ⟨ov, h1, h2, F', h3⟩ => ⟨ov, F', h1, h2, h3⟩

section
variable {W : World} {s : Nat} {F : List Nat} {S S' : PS} {g : Nat} {fn : FuncId} {first cap : Array Value} {lv : Value} {x y z : Int}
theorem tells_clo (hb : Blk W g 154 #[.func (.func fn) first cap]) (hE : Enters Tryz.prog fn)
    (h : Calls Tryz.prog fn (first ++ #[lv] ++ cap) W fun e w' => e = .returned (.int .i64 x) ∧ Done W s F S S' w') : Calls Tryz.prog 220 (#[] ++ #[lv] ++ #[.pointer (some ⟨g, 0, none⟩)]) W (ActDone W s F S (([], x), S')) := by
  have c0 := hb.cell 0
  have hent : ∀ (args : Array Value) (w : World), (callFunc fn args).run Tryz.prog w = .ok (.enter fn args) w := hE
  clear hb hE
  show Calls Tryz.prog 220 #[lv, .pointer (some ⟨g, 0, none⟩)] W _
  go_enter Tryz.func220, Tryz.ntmps220
  go_wp2_with fail
  refine h.mono ?_
  rintro _ w1 ⟨rfl, hd⟩
  have HD := Lib.hid hd
  clear h hd
  go_wp2_with fail
  go_ret2
  exact ⟨_, rfl, .inl ⟨rfl, rfl⟩, HD.out⟩
theorem gives_clo (hb : Blk W g 149 #[.func (.func fn) first cap]) (hE : Enters Tryz.prog fn)
    (h : Calls Tryz.prog fn (first ++ #[lv] ++ cap) W fun e w' => e = .returned (.int .i64 x) ∧ Done W s F S S' w') : Calls Tryz.prog 213 (#[] ++ #[lv] ++ #[.pointer (some ⟨g, 0, none⟩)]) W (ActDone W s F S (([x], 0), S')) := by
  have c0 := hb.cell 0
  have hent : ∀ (args : Array Value) (w : World), (callFunc fn args).run Tryz.prog w = .ok (.enter fn args) w := hE
  clear hb hE
  show Calls Tryz.prog 213 #[lv, .pointer (some ⟨g, 0, none⟩)] W _
  go_enter Tryz.func213, Tryz.ntmps213
  go_wp2_with fail
  refine h.mono ?_
  rintro _ w1 ⟨rfl, hd⟩
  have HD := Lib.hid hd
  clear h hd
  go_wp2_with fail
  go_ret2
  exact ⟨_, rfl, .inr ⟨_, _, rfl, fun j u hj => by rw [add_off, Nat.zero_add]; exact ((Blk.new w1 _ _).cell j).trans (by simpa [cells] using hj)⟩, HD.out.alloc _⟩
theorem may_clo (hb : Blk W g 124 #[.func (.func fn) first cap]) (hE : Enters Tryz.prog fn)
    (h : Calls Tryz.prog fn (first ++ #[lv] ++ cap) W fun e w' => e = .returned (.tuple #[.int .i64 x, .int .i64 y]) ∧ Done W s F S S' w') : Calls Tryz.prog 94 (#[] ++ #[lv] ++ #[.pointer (some ⟨g, 0, none⟩)]) W (ActDone W s F S (([x], y), S')) := by
  have c0 := hb.cell 0
  have hent : ∀ (args : Array Value) (w : World), (callFunc fn args).run Tryz.prog w = .ok (.enter fn args) w := hE
  clear hb hE
  show Calls Tryz.prog 94 #[lv, .pointer (some ⟨g, 0, none⟩)] W _
  go_enter Tryz.func94, Tryz.ntmps94
  go_wp2_with fail
  refine h.mono ?_
  rintro _ w1 ⟨rfl, hd⟩
  have HD := Lib.hid hd
  clear h hd
  go_wp2_with fail
  go_ret2
  exact ⟨_, rfl, .inr ⟨_, _, rfl, fun j u hj => by rw [add_off, Nat.zero_add]; exact ((Blk.new w1 _ _).cell j).trans (by simpa [cells] using hj)⟩, HD.out.alloc _⟩
theorem divides_clo (hb : Blk W g 144 #[.func (.func fn) first cap]) (hE : Enters Tryz.prog fn)
    (h : Calls Tryz.prog fn (first ++ #[lv] ++ cap) W fun e w' => e = .returned (.tuple #[.int .i64 x, .int .i64 z, .int .i64 y]) ∧ Done W s F S S' w') : Calls Tryz.prog 217 (#[] ++ #[lv] ++ #[.pointer (some ⟨g, 0, none⟩)]) W (ActDone W s F S (([x, z], y), S')) := by
  have c0 := hb.cell 0
  have hent : ∀ (args : Array Value) (w : World), (callFunc fn args).run Tryz.prog w = .ok (.enter fn args) w := hE
  clear hb hE
  show Calls Tryz.prog 217 #[lv, .pointer (some ⟨g, 0, none⟩)] W _
  go_enter Tryz.func217, Tryz.ntmps217
  go_wp2_with fail
  refine h.mono ?_
  rintro _ w1 ⟨rfl, hd⟩
  have HD := Lib.hid hd
  clear h hd
  go_wp2_with fail
  go_ret2
  exact ⟨_, rfl, .inr ⟨_, _, rfl, fun j u hj => by rw [add_off, Nat.zero_add]; exact ((Blk.new w1 _ _).cell j).trans (by simpa [cells] using hj)⟩, HD.out.alloc _⟩
end

theorem found_says {B s m : Nat} {op : Int} {v : Value} {W : World} (h : FoundAt B s m op v W) (h1 : pairsOp op = 0) (h2 : memoryOp op = 0) : ∃ b C, B ≤ C ∧ B ≤ b ∧ saysPV C b s (saysOp op) v W ∧ Blk W b 24 #[.pointer (some ⟨s, 0, none⟩)] := by
  rcases h with ⟨b, C, _, _, ⟨h3, _⟩, _⟩ | ⟨b, C, _, _, ⟨h3, _⟩, _⟩ | ⟨b, C, k1, k2, h3, h4⟩
  · exact absurd h1 h3
  · exact absurd h2 h3
  · exact ⟨b, C, k1, k2, h3.2, h4⟩
theorem found_memory {B s m : Nat} {op : Int} {v : Value} {W : World} (h : FoundAt B s m op v W) (h1 : pairsOp op = 0) (h2 : saysOp op = 0) : ∃ b C, B ≤ C ∧ B ≤ b ∧ memoryPV C b s (memoryOp op) v W ∧ Blk W b 61 #[.pointer (some ⟨m, 0, none⟩)] := by
  rcases h with ⟨b, C, _, _, ⟨h3, _⟩, _⟩ | ⟨b, C, k1, k2, h3, h4⟩ | ⟨b, C, _, _, ⟨h3, _⟩, _⟩
  · exact absurd h1 h3
  · exact ⟨b, C, k1, k2, h3.2, h4⟩
  · exact absurd h2 h3
theorem act_open {B g0 : Nat} {t : Int} {clo f : FuncId} {ty : TypeId} {t' : Int} {first cap : Array Value} {fv : Value} {W : World} (h : ActAt B t clo ty fv (.agg #[.int .i64 t', .func (.func f) first cap]) W) (hg0 : g0 ≤ B) :
    ∃ g, g0 ≤ g ∧ Blk W g ty #[fv] ∧ t' = t ∧ f = clo ∧ first = #[] ∧ cap = #[.pointer (some ⟨g, 0, none⟩)] := by
  obtain ⟨g, e, h1, h2⟩ := h
  injection e with e
  injection e with e
  injection e with e1 e
  injection e with e2 e
  injection e1 with _ e1
  injection e2 with e2 e3 e4
  injection e2 with e2
  exact ⟨g, by omega, h2, e1, e2, e3, e4⟩

set_option maxHeartbeats 1000000 in
theorem say_fn {W : World} {s : Nat} {F : List Nat} {S : PS} {b g : Nat} {fn : FuncId} {first cap : Array Value} {lv : Value} {x : ByteArray} (hS : StateAt W s F S) (hok : S.ok)
    (hb : Blk W b 24 #[.pointer (some ⟨s, 0, none⟩)]) (hg : Blk W g 160 #[.func (.func fn) first cap]) (hE : Enters Tryz.prog fn)
    (h : Calls Tryz.prog fn (first ++ #[lv] ++ cap) W.drew fun e w' => e = .returned (.string x) ∧ Touch [] W.drew w') :
    Calls Tryz.prog 164 (#[] ++ #[lv] ++ #[.pointer (some ⟨b, 0, none⟩), .pointer (some ⟨g, 0, none⟩)]) W fun e w' => e = .returned (.int .i64 0) ∧ Done W s F S { S with out := sayL S.out x } w' := by
  have b0 := hb.cell 0
  have g0 := hg.cell 0
  have hent : ∀ (args : Array Value) (w : World), (callFunc fn args).run Tryz.prog w = .ok (.enter fn args) w := hE
  have HB := Lib.hid (And.intro hb (And.intro hS hok))
  clear hb hg hE hS hok
  show Calls Tryz.prog 164 #[lv, .pointer (some ⟨b, 0, none⟩), .pointer (some ⟨g, 0, none⟩)] W _
  go_enter Tryz.func164, Tryz.ntmps164
  go_upto_region 1 with fail
  go_region_with (first | (go_at_fn fn; refine h.mono ?_; rintro _ w1 ⟨rfl, t1⟩; have c1 := (HB.out.1.touch t1.of_drew (by simp)).cell 0; have T1 := Lib.hid t1.of_drew; clear t1) | (go_at_call 36; refine (PSay_any (HB.out.2.1.quiet T1.out) HB.out.2.2.1 x).mono ?_; rintro _ w2 ⟨F2, rfl, k1, k2, k3⟩; have HD : Hid (Done W s F S { S with out := sayL S.out x } w2) := ⟨F2, k1, ⟨rfl, rfl, rfl, rfl, rfl, rfl⟩, (T1.out.mono (by simp)).trans k2 (fun g hg => .inl hg), k3.lower T1.out.size⟩; clear k1 k2 k3))
  all_goals go_wp2_with fail
  all_goals go_ret
  all_goals exact ⟨rfl, HD.out⟩
end Go.Proofs.YtkbchpaofmlhgaaGreatDoor

/- slices.Reverse of bytes that are owned. -/
namespace Go.Proofs
open Go.Shelf
def Tryz.laysRev_ren : Go.Shelf.Ren := ⟨fun | 35 => 236 | n => n, fun | 22 => 66 | 23 => 5 | 3 => 3 | 4 => 4 | 0 => 0 | n => n, fun | n => n⟩
theorem Tryz.laysRev : Go.Proofs.SlLaysE.n35 Tryz.prog Tryz.laysRev_ren := {
  mixed := by kernel_rfl
  f35 := ⟨Tryz.f236.name, by decide, Tryz.func236.trans (congrArg some (by kernel_rfl))⟩
  t0 := Tryz.underlying0
  a0 := Tryz.isAgg0
  z0 := Tryz.sizeOf0
  v0 := Tryz.zeroValue0
  t3 := Tryz.underlying3
  a3 := Tryz.isAgg3
  z3 := Tryz.sizeOf3
  v3 := Tryz.zeroValue3
  t4 := Tryz.underlying4
  a4 := Tryz.isAgg4
  z4 := Tryz.sizeOf4
  v4 := Tryz.zeroValue4
  t22 := Tryz.underlying66
  a22 := Tryz.isAgg66
  z22 := Tryz.sizeOf66
  v22 := Tryz.zeroValue66
  a23 := Tryz.isAgg5
  z23 := Tryz.sizeOf5 }
end Go.Proofs
namespace Go.Proofs.YtkbchpaofmlhgaaGreatDoor
open Go.RowKit Go.Sort

theorem enc_one : OneCell (Value.int .u8) := by
  intro x
  rfl
theorem take_put (cur : Array Value) (ts : List Int) (h : ts.length ≤ cur.size) : (putCells (Value.int .u8) 0 ts.toArray cur).toList.take ts.length = ts.map (Value.int .u8) := by
  apply List.ext_getElem?
  intro j
  by_cases hj : j < ts.length
  · rw [List.getElem?_take_of_lt hj, Array.getElem?_toList]
    simp [putCells, hj, show j < cur.size by omega]
  · rw [List.getElem?_take_eq_none (by omega), List.getElem?_eq_none (by simp; omega)]
theorem rev_any (w : World) (base : Nat) (v : Value) (l : List Int) (h : w.ownsRow base 5 1 v l.length (bytesV l)) :
    Calls Tryz.prog 236 #[v] w fun e w' => e = .returned (.tuple #[]) ∧ w'.ownsRow base 5 1 v l.length (bytesV l.reverse) ∧ Touch (rowOf v) w w' := by
  have hrun := @AnyE.slices_Reverse Tryz.prog Tryz.laysRev_ren Int _ Tryz.laysRev (Value.int .u8) enc_one
  rcases h.2 with ⟨rfl, h0⟩ | ⟨g, cap, cur, rfl, hbg, hg, hnc, hcm, hcs, htake⟩
  · obtain rfl := List.eq_nil_of_length_eq_zero h0
    refine (AnyE.slices_Reverse_empty (P := Tryz.prog) Tryz.laysRev none 0 w).mono ?_
    rintro _ w' ⟨rfl, rfl⟩
    exact ⟨rfl, h, Touch.refl _ _⟩
  · have hl : l.length ≤ cur.size := by rw [hcs]; omega
    have htk : cur.toList.take l.length = l.map (Value.int .u8) := by simpa [bytesV] using htake
    have hH : Holds (Value.int .u8) w g 0 l.toArray := by
      intro j hj
      have hj' : j < l.length := by simpa using hj
      refine ⟨?_, by simp [World.frozen?, hg]⟩
      have h1 : (cur.toList.take l.length)[j]? = (l.map (Value.int .u8))[j]? := by rw [htk]
      rw [List.getElem?_take_of_lt hj'] at h1
      simp only [World.cell?, hg, Nat.zero_add]
      simp only [Option.isSome_none, Bool.false_eq_true, if_false]
      rw [← Array.getElem?_toList, h1]
      simp [hj']
    refine (hrun g 0 cap l w hH (by unfold maxLen at hcm; omega)).mono ?_
    rintro _ w' ⟨rfl, q, rfl⟩
    refine ⟨rfl, ⟨by simp [bytesV], .inr ⟨g, cap, putCells (Value.int .u8) 0 l.reverse.toArray cur, rfl, hbg, ?_, hnc, hcm, by simpa [putCells] using hcs, ?_⟩⟩, ⟨rfl, rfl, rfl, by simp, fun k hk hne => ?_⟩⟩
    · simp [putRow, mapBlock, Sort.ahead, Array.getElem?_modify, hg, onCells]
    · have := take_put cur l.reverse (by simp; exact hl)
      simpa [bytesV] using this
    · have : g ≠ k := fun e => hne (by simp [rowOf, e])
      simp [putRow, mapBlock, Sort.ahead, Array.getElem?_modify, this]
end Go.Proofs.YtkbchpaofmlhgaaGreatDoor
