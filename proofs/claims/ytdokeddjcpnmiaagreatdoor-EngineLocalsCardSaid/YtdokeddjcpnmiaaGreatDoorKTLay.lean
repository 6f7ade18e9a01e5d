import Derived.Test.YtdokeddjcpnmiaaGreatDoorKTaX
import Derived.Test.YtdokeddjcpnmiaaGreatDoorJPlX
import Derived.Laws.BitsLemmas
/- A definition is laid down. -/
namespace Go.Proofs.YtdokeddjcpnmiaaGreatDoor
open Go.RowKit
namespace En

def insCells (x : Int × Int × Int) : List Value := [.int .u8 x.1, .int .i64 x.2.1, .int .i64 x.2.2]
/-- instructions in memory -/
def InsAt (w : World) (lv : Value) (L : List (Int × Int × Int)) : Prop := (L = [] ∧ ∃ a c, lv = .slice a 0 c) ∨ ∃ b off c, lv = .slice (some ⟨b, off, none⟩) L.length c ∧ ∀ i x, L[i]? = some x → w.cell? ⟨b, off + i * 3, none⟩ = some (.int .u8 x.1) ∧ w.cell? ⟨b, off + i * 3 + 1, none⟩ = some (.int .i64 x.2.1) ∧ w.cell? ⟨b, off + i * 3 + 2, none⟩ = some (.int .i64 x.2.2)
/-- the block of a slice stays -/
def Off (w w' : World) (lv : Value) : Prop := ∀ b ∈ rowOf lv, ∀ o, w'.cell? ⟨b, o, none⟩ = w.cell? ⟨b, o, none⟩
theorem InsAt.off {w w' : World} {lv : Value} {L : List (Int × Int × Int)} (h : InsAt w lv L) (ho : Off w w' lv) : InsAt w' lv L := by
  rcases h with h | ⟨b, off, c, rfl, h⟩
  · exact .inl h
  · refine .inr ⟨b, off, c, rfl, fun i x hx => ?_⟩
    have hb := ho b (by simp [rowOf])
    rw [hb, hb, hb]
    exact h i x hx
theorem Off.refl (w : World) (lv : Value) : Off w w lv := fun _ _ _ => rfl
theorem Off.trans {w w1 w2 : World} {lv : Value} (h : Off w w1 lv) (k : Off w1 w2 lv) : Off w w2 lv := fun b hb o => (k b hb o).trans (h b hb o)
theorem Off.of {F : List Nat} {w w' : World} {lv : Value} (t : Touch F w w') (hl : ∀ b ∈ rowOf lv, b < w.heap.size ∧ b ∉ F) : Off w w' lv := fun b hb o => t.cell (p := ⟨b, o, none⟩) (hl b hb).1 (hl b hb).2
theorem code_end {w1 W w2 : World} {g : Nat} {p : Lay} {cv ev wv : Value} {Ff FS FI : List Nat} {m : M} {b cap n : Nat} (x : List Int) (hx : x.length = 2) (h : Lie w1 g p cv ev wv Ff FS FI m) (t : Touch [] w1 W) (hn : m.code.length = n)
    (hown : w2.ownsRow 0 33 1 (.slice (some ⟨b, 0, none⟩) (n + 2) cap) (n + 2) (cells m.code ++ cells x)) (hgr : W.grownBy w2 cv.ownBlock) (hat : cv.ownBlock = some b ∨ b = W.heap.size) :
    Keep w1 g p (footE g cv ev wv Ff FS FI) { m with code := m.code ++ x } (w2.setCell ⟨g, 0, none⟩ (.slice (some ⟨b, 0, none⟩) (n + 2) cap)) := by
  have hgl := h.blk.lt
  have hz := t.size
  have hgw : g ∉ rowOf cv := fun k => (h.rows_off.1 g k).1 rfl
  have hbg : b ≠ g := by
    rintro rfl
    rcases hat with e | e
    · exact hgw (rowOf_mem.2 e)
    · omega
  have hb2 : Blk w2 g 85 (engCells p cv ev wv m) := (h.blk.touch t (by simp)).grown hgr (fun e => hgw (rowOf_mem.2 e.symm))
  have t2 : Touch (g :: rowOf cv) w1 w2 := (t.mono (by simp)).grown hgr fun k hk => .inl (by simp [rowOf_mem, hk])
  refine h.cds (cv' := .slice (some ⟨b, 0, none⟩) (n + 2) cap) (L := m.code ++ x) (hb2.set_ 0 _) ?_ (t2.setCell (by simp) _) ?_
  · rw [cells_append, show (m.code ++ x).length = n + 2 by rw [List.length_append, hn, hx]]
    exact row_touch hown (F := [g]) ((Touch.refl _ _).setCell (by simp) _) (by simp [rowOf]; exact hbg)
  · intro y hy
    simp only [rowOf, List.mem_cons, List.not_mem_nil, or_false] at hy
    rw [hy]
    rcases hat with e | e
    · exact .inl (rowOf_mem.2 e)
    · exact .inr (by omega)
theorem ends_end {w1 W w2 : World} {g : Nat} {p : Lay} {cv ev wv : Value} {Ff FS FI : List Nat} {m : M} {b cap n : Nat} (x : Int) (h : Lie w1 g p cv ev wv Ff FS FI m) (t : Touch [] w1 W) (hn : m.ends.length = n)
    (hown : w2.ownsRow 0 3 1 (.slice (some ⟨b, 0, none⟩) (n + 1) cap) (n + 1) (cells m.ends ++ cells [x])) (hgr : W.grownBy w2 ev.ownBlock) (hat : ev.ownBlock = some b ∨ b = W.heap.size) :
    Keep w1 g p (footE g cv ev wv Ff FS FI) { m with ends := m.ends ++ [x] } (w2.setCell ⟨g, 1, none⟩ (.slice (some ⟨b, 0, none⟩) (n + 1) cap)) := by
  have hgl := h.blk.lt
  have hz := t.size
  have hgw : g ∉ rowOf ev := fun k => (h.rows_off.2.1 g k).1 rfl
  have hbg : b ≠ g := by
    rintro rfl
    rcases hat with e | e
    · exact hgw (rowOf_mem.2 e)
    · omega
  have hb2 : Blk w2 g 85 (engCells p cv ev wv m) := (h.blk.touch t (by simp)).grown hgr (fun e => hgw (rowOf_mem.2 e.symm))
  have t2 : Touch (g :: rowOf ev) w1 w2 := (t.mono (by simp)).grown hgr fun k hk => .inl (by simp [rowOf_mem, hk])
  refine h.nds (ev' := .slice (some ⟨b, 0, none⟩) (n + 1) cap) (L := m.ends ++ [x]) (hb2.set_ 1 _) ?_ (t2.setCell (by simp) _) ?_
  · rw [cells_append, show (m.ends ++ [x]).length = n + 1 by rw [List.length_append, hn]; rfl]
    exact row_touch hown (F := [g]) ((Touch.refl _ _).setCell (by simp) _) (by simp [rowOf]; exact hbg)
  · intro y hy
    simp only [rowOf, List.mem_cons, List.not_mem_nil, or_false] at hy
    rw [hy]
    rcases hat with e | e
    · exact .inl (rowOf_mem.2 e)
    · exact .inr (by omega)
def M.laid (m : M) (L : List (Int × Int × Int)) : M := { m with code := m.code ++ codeOf L, ends := m.ends ++ [((m.code.length + 2 * L.length : Nat) : Int)] }
def LayRel (w : World) (g : Nat) (p : Lay) (F : List Nat) (m : M) (L : List (Int × Int × Int)) (lv : Value) (k : Nat) (wr : World) : Prop := Keep w g p F { m with code := m.code ++ codeOf (L.take k) } wr ∧ InsAt wr lv L ∧ Off w wr lv
theorem lay_next {w wr wc : World} {g n : Nat} {p : Lay} {F Fk : List Nat} {m mk : M} {L : List (Int × Int × Int)} {b off lc k : Nat} {op a v : Int} (hlo : ∀ x ∈ rowOf (.slice (some ⟨b, off, none⟩) n lc), x < w.heap.size ∧ x ∉ F) (tk : Touch F w wr) (sk : Sub w F Fk) (hmk : mk = { m with code := m.code ++ codeOf (L.take k) }) (hn : n = L.length)
    (hcell : ∀ i x, L[i]? = some x → wr.cell? ⟨b, off + i * 3, none⟩ = some (.int .u8 x.1) ∧ wr.cell? ⟨b, off + i * 3 + 1, none⟩ = some (.int .i64 x.2.1) ∧ wr.cell? ⟨b, off + i * 3 + 2, none⟩ = some (.int .i64 x.2.2))
    (hx : L[k]? = some (op, a, v)) (hO : Off w wr (.slice (some ⟨b, off, none⟩) n lc)) (hG : Keep wr g p Fk { mk with code := mk.code ++ [op + 256 * a, v] } wc) : LayRel w g p F m L (.slice (some ⟨b, off, none⟩) n lc) (k + 1) wc := by
  have hOff : Off wr wc (.slice (some ⟨b, off, none⟩) n lc) := by
    obtain ⟨_, _, t2, _⟩ := hG
    refine Off.of t2 (fun x hx => ?_)
    obtain ⟨h1, h2⟩ := hlo x hx
    exact ⟨Nat.lt_of_lt_of_le h1 tk.size, fun h3 => (sk x h3).elim h2 (fun h4 => by omega)⟩
  have hTake : L.take (k + 1) = L.take k ++ [(op, a, v)] := by
    obtain ⟨hkl, hxe⟩ := List.getElem?_eq_some_iff.1 hx
    rw [List.take_succ_eq_append_getElem hkl, hxe]
  refine ⟨?_, ?_, hO.trans hOff⟩
  · have hK := Keep.trans tk sk hG
    rw [hmk] at hK
    rw [hTake]
    unfold codeOf at hK ⊢
    rw [List.flatMap_append, ← List.append_assoc]
    exact hK
  · exact InsAt.off (.inr ⟨b, off, lc, by rw [hn], hcell⟩) hOff
theorem info_int : (Tryz.prog.info? 3).map (fun i => (i.zero, i.size, i.bytes)) = some (some (.int .i64 0), 1, 8) := by kernel_rfl
theorem info_int' : ∃ i0, Tryz.prog.info? 3 = some i0 ∧ i0.zero = some (.int .i64 0) ∧ i0.size = 1 ∧ i0.bytes = 8 := by
  have h := info_int
  cases hi : Tryz.prog.info? 3 with
  | none => rw [hi] at h; cases h
  | some i => rw [hi] at h; simp at h; exact ⟨i, rfl, h.1, h.2.1, h.2.2⟩
set_option maxRecDepth 100000 in
set_option maxHeartbeats 3200000 in
theorem lay_sem {w : World} {g : Nat} {p : Lay} {F : List Nat} {m : M} (h : EngAt w g p F m) (hcl : m.code.length ≤ 1000000) (hel : m.ends.length ≤ 1000) (L : List (Int × Int × Int)) (hL : L.length ≤ 1000) (hop : ∀ x ∈ L, (0 ≤ x.1 ∧ x.1 < 256) ∧ 0 ≤ x.2.1 ∧ x.2.1 ≤ 1000000) (lv : Value) (hI : InsAt w lv L) (hlo : ∀ b ∈ rowOf lv, b < w.heap.size ∧ b ∉ F) :
    Calls Tryz.prog 40 #[.pointer (some ⟨g, 0, none⟩), lv] w fun e w' => e = .returned (.tuple #[]) ∧ Keep w g p F (m.laid L) w' ∧ Off w w' lv := by
  obtain ⟨i0, hi, hz0, hz1, hz2⟩ := info_cell'
  obtain ⟨j0, ji, jz0, jz1, jz2⟩ := info_int'
  obtain ⟨n, hn⟩ : ∃ n, L.length = n := ⟨_, rfl⟩
  have hform : ∃ a c, lv = .slice a n c := by
    rcases hI with ⟨rfl, a, c, rfl⟩ | ⟨b, off, c, rfl, _⟩
    · exact ⟨a, c, by rw [← hn]; rfl⟩
    · exact ⟨_, c, by rw [hn]⟩
  have h0 : LayRel w g p F m L lv 0 w := ⟨by
    have e : ({ m with code := m.code ++ codeOf (L.take 0) } : M) = m := by simp [codeOf]
    rw [e]; exact Keep.refl h, hI, Off.refl _ _⟩
  have HH := Lib.hid (And.intro h (And.intro hcl (And.intro hel (And.intro hn (And.intro hop hlo)))))
  rw [hn] at hL
  obtain ⟨la, lc, rfl⟩ := hform
  clear h hcl hel hn hop hlo hI
  go_enter Tryz.func40, Tryz.ntmps40
  go_wp2_with fail
  go_loopw [8] (fun i wr => ∃ k : Nat, k ≤ n ∧ i = .int .i64 k ∧ LayRel w g p F m L (.slice la n lc) k wr) (fun i _ => n - (intOf i).toNat)
  case atStart => exact ⟨0, Nat.zero_le _, rfl, h0⟩
  case round =>
    obtain ⟨k, hk, rfl, hR⟩ := hrel
    rcases Nat.lt_or_ge k n with hlt | hge
    · obtain ⟨hK, hI, hO⟩ := hR
      obtain ⟨x, hx⟩ : ∃ x, L[k]? = some x := ⟨_, List.getElem?_eq_getElem (by rw [HH.out.2.2.2.1]; exact hlt)⟩
      rcases hI with ⟨hnil, _⟩ | ⟨b, off, c, hlv, hcell⟩
      · rw [hnil] at hx; cases hx
      · injection hlv with hv1 hv2 hv3
        subst hv1 hv3
        clear hv2
        obtain ⟨k0, k1, k2⟩ := hcell k x hx
        have hxb := HH.out.2.2.2.2.1 x (List.mem_of_getElem? hx)
        obtain ⟨op, a, v⟩ := x
        dsimp only at k0 k1 k2 hxb
        have hOr : bits .or .i64 (IntKind.i64.wrap (a * 256)) (IntKind.i64.wrap op) = op + 256 * a := by
          have e1 : IntKind.i64.wrap (a * 256) = a * 256 := by rw [IntKind.wrap_i64]; omega
          have e2 : IntKind.i64.wrap op = op := by rw [IntKind.wrap_i64]; omega
          rw [e1, e2, bits_join .i64 62 (by decide) (fun n h0 h1 => by rw [IntKind.wrap_i64]; omega) 8 (a * 256) op (by omega) (by omega) (by omega) hxb.1.1 (by omega) (by omega)]
          omega
        have hb1 : 0 ≤ a := hxb.2.1
        have hb2 : a ≤ 1000000 := hxb.2.2
        have hb3 : 0 ≤ op := hxb.1.1
        have hb4 : op ≤ 255 := by omega
        obtain ⟨Fk, hE, tk, sk⟩ := hK
        obtain ⟨cv, ev, wv, Ff, FS, FI, hLie, rfl⟩ := hE
        have HX := Lib.hid (And.intro hx (And.intro tk (And.intro sk (And.intro hLie (And.intro hcell hO)))))
        have tY := (Touch.refl [] wr).alloc (.cells #[.int .u8 op, .int .i64 a, .int .i64 v] 56)
        have bY := Blk.new wr 56 #[.int .u8 op, .int .i64 a, .int .i64 v]
        have hL2 := HX.out.2.2.2.1
        have c0 : wr.cell? ⟨g, 0, none⟩ = some cv := hL2.blk.cell 0
        have c0 := cell_quiet tY c0
        obtain ⟨y, hy⟩ : ∃ y, wr.heap.size = y := ⟨_, rfl⟩
        rw [hy] at bY
        have HTY := Lib.hid tY
        clear hx hxb tk sk hLie hcell hO hL2 tY
        go_upto_region 3 with fail
        clear hy k0 k1 k2
        generalize wr.alloc (.cells #[.int .u8 op, .int .i64 a, .int .i64 v] 56) = wB at *
        have y0 := bY.cell 0
        have y1 := bY.cell 1
        have y2 := bY.cell 2
        have hcl : (m.code ++ codeOf (L.take k)).length ≤ 1010000 := by
          have h1 := HH.out.2.1
          have h2 := codeOf_len (L.take k)
          rw [List.length_append, h2, List.length_take]
          omega
        obtain ⟨mk, hmk⟩ : ∃ mk : M, ({ m with code := m.code ++ codeOf (L.take k) } : M) = mk := ⟨_, rfl⟩
        rw [hmk] at HX
        have hcl : mk.code.length ≤ 1010000 := by rw [← hmk]; exact hcl
        have HMK := Lib.hid hmk
        clear hmk
        have hLB := HX.out.2.2.2.1
        have hrow := hLB.code
        obtain ⟨ca, cc, hcv⟩ := row_value hrow
        have hgw : g ∉ rowOf cv := fun kk => (hLB.rows_off.1 g kk).1 rfl
        obtain ⟨q, hq⟩ : ∃ q, mk.code.length = q := ⟨_, rfl⟩
        rw [hq] at hcl hrow hcv
        have HCV : Hid (∀ W, Touch [] wB W → W.ownsRow 0 33 1 (.slice ca q cc) q (cells mk.code)) := Lib.hid fun W t => by rw [← hcv]; exact row_touch (row_touch hrow HTY.out (by simp)) t (by simp)
        have HV : Hid (some g ≠ (Value.slice ca q cc).ownBlock) := Lib.hid (by rw [← hcv]; exact fun e => hgw (rowOf_mem.2 e.symm))
        have HBB := Lib.hid (hLB.blk.touch HTY.out (by simp))
        have HE := Lib.hid (fun (W w2 : World) (b cap : Nat) (t : Touch [] wB W) => code_end (W := W) (w2 := w2) (b := b) (cap := cap) (n := q) [op + 256 * a, v] rfl hLB (HTY.out.trans t (by simp)) hq)
        rw [hcv] at c0 HE
        have HA : Hid (q + 2 ≤ maxLen) := by show _ ≤ maxLen; unfold maxLen; omega
        have HB : Hid ((q + 2) * 8 ≤ 140737488355328) := by show (q + 2) * 8 ≤ 140737488355328; omega
        have A0 := fun ob => cell_quiet ((Touch.refl [] wB).alloc ob) c0
        have HCQ := Lib.hid (And.intro hcv hq)
        clear hLB hrow hcv hgw hq h0
        have HNX := Lib.hid (fun (wc : World) (hG : Keep wr g p (footE g cv ev wv Ff FS FI) { mk with code := mk.code ++ [op + 256 * a, v] } wc) => lay_next HH.out.2.2.2.2.2 HX.out.2.1 HX.out.2.2.1 HMK.out.symm (by rw [HH.out.2.2.2.1]) HX.out.2.2.2.2.1 HX.out.1 HX.out.2.2.2.2.2 hG)
        rw [HCQ.out.1] at HNX
        go_region_law (first
          | (refine step_append_lies _ rfl (.tmp 16) (.tmp 26) 25 rfl 0 33 i0 _ 1 8 Tryz.underlying25 hi hz0 hz1 hz2 rfl (by omega) (.slice ca q cc) q (cells mk.code) (by simp [Act.eval]) (HCV.out _ (by first | with_reducible exact ((Touch.refl [] wB).alloc _).drew | with_reducible exact (Touch.refl [] wB).drew.alloc _)) ⟨_, 0, none⟩ 2 2 (cells [op + 256 * a, v]) (by simp [Act.eval]) rfl (World.news_of_block (heap_alloc_new _ _)) (cells_one _) (by omega) HA.out HB.out (Nat.zero_le _) _ rfl ?_; intro gb cap w2 hown hgr hat hlt2; have HG := Lib.hid (HE.out _ _ _ _ (by first | with_reducible exact ((Touch.refl [] wB).alloc _).drew | with_reducible exact (Touch.refl [] wB).drew.alloc _) hown hgr hat); have hb1 := (HBB.out.touch (by first | with_reducible exact ((Touch.refl [] wB).alloc _).drew | with_reducible exact (Touch.refl [] wB).drew.alloc _) (by simp)).grown hgr HV.out; have d0 := hb1.cell 0; have g0 := hb1.frozen 0; clear hown hgr hat hlt2 hb1))
        all_goals have hNext := Lib.hid (HNX.out _ HG.out)
        all_goals clear HG d0 g0
        all_goals go_wp2_with fail
        all_goals go_roundw
        all_goals first
          | exact ⟨k + 1, by omega, by go_num, hNext.out⟩
          | (simp [intOf]; omega)
    · obtain rfl : k = n := by omega
      obtain ⟨hK, hI, hO⟩ := hR
      obtain ⟨Fk, hE, tk, sk⟩ := hK
      have eT : L.take k = L := List.take_of_length_le (by rw [HH.out.2.2.2.1]; exact Nat.le_refl _)
      rw [eT] at hE
      have hlo := HH.out.2.2.2.2.2
      obtain ⟨mk, hmk⟩ : ∃ mk : M, ({ m with code := m.code ++ codeOf L } : M) = mk := ⟨_, rfl⟩
      rw [hmk] at hE
      obtain ⟨cv, ev, wv, Ff, FS, FI, hLB, rfl⟩ := hE
      have c0 : wr.cell? ⟨g, 0, none⟩ = some cv := hLB.blk.cell 0
      have c1 : wr.cell? ⟨g, 1, none⟩ = some ev := hLB.blk.cell 1
      obtain ⟨ca, cc, hcv⟩ := row_value hLB.code
      have hrow := hLB.ends
      obtain ⟨ea, ec, hev⟩ := row_value hrow
      have hgw : g ∉ rowOf ev := fun kk => (hLB.rows_off.2.1 g kk).1 rfl
      have hel : mk.ends.length ≤ 1000 := by rw [← hmk]; exact HH.out.2.2.1
      have hcl : mk.code.length ≤ 1010000 := by
        rw [← hmk]
        show (m.code ++ codeOf L).length ≤ 1010000
        have h1 := HH.out.2.1
        have h2 := codeOf_len L
        have h3 := HH.out.2.2.2.1
        rw [List.length_append, h2]
        omega
      obtain ⟨q, hq⟩ : ∃ q, mk.ends.length = q := ⟨_, rfl⟩
      obtain ⟨cq, hcq⟩ : ∃ cq, mk.code.length = cq := ⟨_, rfl⟩
      rw [hq] at hel hrow hev
      rw [hcq] at hcv hcl
      have HCV : Hid (∀ W, Touch [] wr W → W.ownsRow 0 3 1 (.slice ea q ec) q (cells mk.ends)) := Lib.hid fun W t => by rw [← hev]; exact row_touch hrow t (by simp)
      have HV : Hid (some g ≠ (Value.slice ea q ec).ownBlock) := Lib.hid (by rw [← hev]; exact fun e => hgw (rowOf_mem.2 e.symm))
      have HBB := Lib.hid hLB.blk
      have HE := Lib.hid (fun (W w2 : World) (b cap : Nat) (t : Touch [] wr W) => ends_end (W := W) (w2 := w2) (b := b) (cap := cap) (n := q) (cq : Int) hLB t hq)
      rw [hcv] at c0
      rw [hev] at c1 HE
      have HA : Hid (q + 1 ≤ maxLen) := by show _ ≤ maxLen; unfold maxLen; omega
      have HB : Hid ((q + 1) * 8 ≤ 140737488355328) := by show (q + 1) * 8 ≤ 140737488355328; omega
      have A0 := fun ob => cell_quiet ((Touch.refl [] wr).alloc ob) c0
      have A1 := fun ob => cell_quiet ((Touch.refl [] wr).alloc ob) c1
      have HFIN : Hid (∀ w2, Keep wr g p (footE g cv (.slice ea q ec) wv Ff FS FI) { mk with ends := mk.ends ++ [(cq : Int)] } w2 → Keep w g p F (m.laid L) w2 ∧ Off w w2 (.slice la k lc)) := Lib.hid fun w2 hG => by
        rw [← hev] at hG
        have hcq2 : cq = m.code.length + 2 * L.length := by
          rw [← hcq, ← hmk]
          show (m.code ++ codeOf L).length = _
          rw [List.length_append, codeOf_len]
        have e : ({ mk with ends := mk.ends ++ [(cq : Int)] } : M) = m.laid L := by
          rw [hcq2, ← hmk]
          rfl
        refine ⟨?_, hO.trans ?_⟩
        · rw [← e]
          exact Keep.trans tk sk hG
        · obtain ⟨_, _, t2, _⟩ := hG
          refine Off.of t2 (fun x hx => ?_)
          obtain ⟨h1, h2⟩ := hlo x hx
          exact ⟨Nat.lt_of_lt_of_le h1 tk.size, fun h3 => (sk x h3).elim h2 (fun h4 => by omega)⟩
      clear hLB hrow hcv hgw hq hcq hev hmk hI hO tk sk eT h0 hlo
      go_upto_region 5 with fail
      go_region_law (first
        | (refine step_append_lies _ rfl (.tmp 35) (.tmp 41) 62 rfl 0 3 j0 _ 1 8 Tryz.underlying62 ji jz0 jz1 jz2 rfl (by omega) (.slice ea q ec) q (cells mk.ends) (by simp [Act.eval]) (HCV.out _ (by first | with_reducible exact ((Touch.refl [] wr).alloc _).drew | with_reducible exact (Touch.refl [] wr).drew.alloc _)) ⟨_, 0, none⟩ 1 1 (cells [(cq : Int)]) (by simp [Act.eval]) rfl (World.news_of_block (heap_alloc_new _ _)) (cells_one _) (by omega) HA.out HB.out (Nat.zero_le _) _ rfl ?_; intro gb cap w2 hown hgr hat hlt2; have HG := Lib.hid (HE.out _ _ _ _ (by first | with_reducible exact ((Touch.refl [] wr).alloc _).drew | with_reducible exact (Touch.refl [] wr).drew.alloc _) hown hgr hat); have hb1 := (HBB.out.touch (by first | with_reducible exact ((Touch.refl [] wr).alloc _).drew | with_reducible exact (Touch.refl [] wr).drew.alloc _) (by simp)).grown hgr HV.out; have d1 := hb1.cell 1; have g1 := hb1.frozen 1; clear hown hgr hat hlt2 hb1))
      all_goals go_wp2_with fail
      all_goals go_end0
      all_goals exact ⟨rfl, HFIN.out _ HG.out⟩
end En
end Go.Proofs.YtdokeddjcpnmiaaGreatDoor
