/- The text of a tree. -/
import Derived.Test.YtnhhflnanogpjaaGreatDoorWord4
import Derived.Test.YtnhhflnanogpjaaGreatDoorRight3
import Derived.Test.YtnhhflnanogpjaaGreatDoorMean
namespace Go.Proofs.YtnhhflnanogpjaaGreatDoor
open Go.RowKit

def textF (ws : List ByteArray) : ByteArray := ⟨(Lib.join ((ws ++ [ByteArray.empty]).map (·.data.toList)) (⟨#[32]⟩ : ByteArray).data.toList).toArray⟩

theorem lens_le : ∀ (xs : List ByteArray), (∀ s ∈ xs, s.size ≤ 600) → Lib.lens (xs.map (·.data.toList)) ≤ 600 * xs.length
  | [], _ => by simp [Lib.lens]
  | x :: xs, h => by
    have h1 := lens_le xs (fun s hs => h s (by simp [hs]))
    have h2 := h x (by simp)
    have h3 : x.data.toList.length = x.size := str_size x
    simp only [List.map_cons, Lib.lens, List.length_cons, List.sum_cons] at h1 ⊢
    omega
theorem text_len (ws : List ByteArray) (h : ∀ s ∈ ws, s.size ≤ 600) : (Lib.join ((ws ++ [ByteArray.empty]).map (·.data.toList)) (⟨#[32]⟩ : ByteArray).data.toList).length ≤ 700 * (ws.length + 1) := by
  have h1 := lens_le (ws ++ [ByteArray.empty]) (fun s hs => by
    rcases List.mem_append.1 hs with h' | h'
    · exact h s h'
    · rw [List.mem_singleton.1 h']; decide)
  cases e : (ws ++ [ByteArray.empty]) with
  | nil => simp at e
  | cons x r =>
    rw [e] at h1
    have hl : (ws ++ [ByteArray.empty]).length = r.length + 1 := by rw [e]; rfl
    rw [List.length_append, List.length_singleton] at hl
    rw [List.map_cons] at h1 ⊢
    rw [Lib.join_length, show (⟨#[32]⟩ : ByteArray).data.toList.length = 1 from rfl, List.length_map]
    simp only [List.length_cons] at h1
    omega

def bOpen : ByteArray := ⟨#[123, 58]⟩
def bClose : ByteArray := ⟨#[58, 125]⟩
def preF (j : Nat) : List ByteArray := bOpen :: (List.range j).map fun i : Nat => localT (i : Int)
theorem preF_succ (j : Nat) : preF j ++ [localT (j : Int)] = preF (j + 1) := by simp [preF, List.range_succ]
theorem preF_len (j : Nat) : (preF j).length = j + 1 := by simp [preF]
theorem preF_size (j : Nat) (hj : j ≤ 100) : ∀ s ∈ preF j ++ [bClose], s.size ≤ 600 := by
  intro s hs
  rcases List.mem_append.1 hs with h | h
  · rcases List.mem_cons.1 h with rfl | h
    · decide
    · obtain ⟨i, hi, rfl⟩ := List.mem_map.1 h
      have := List.mem_range.1 hi
      have := localT_size (i : Int) (by omega) (by omega)
      omega
  · rw [List.mem_singleton.1 h]; decide
def TextSays (l : List NodeV) (nl : Nat) (w : World) : Ending → World → Prop := fun e w' => ∃ pre ws, (nl = 0 → pre = []) ∧ wordsR l l.length (l.length - 1) ws ∧ e = .returned (.string (textF (pre ++ ws))) ∧ Touch [] w w'
theorem row_app {w wr w' : World} {ws : List ByteArray} {v : Value} (h : WordsAt wr w.heap.size v ws) (t : Touch [] w wr) (k2 : wr.grownBy w' v.ownBlock) : Touch [] w w' :=
  t.grown k2 (fun k hk => .inr ((World.ownsRow.lt h k hk).1))

set_option maxRecDepth 100000 in
set_option maxHeartbeats 1000000 in
theorem Text_go (l : List NodeV) (nl : Nat) (lv : Value) (w : World) (hN : NodesAt w lv l) (hR : rightB l nl = true) (hok : NodesOk l) (hcnt : cntF l l.length (l.length - 1) ≤ 1000000) (hT : TabsOk w) :
    Calls Tryz.prog 11 #[lv, .int .i64 nl] w (TextSays l nl w) := by
  have hsp : nl ≤ 16 ∧ 1 ≤ l.length ∧ l.length ≤ 100 := by
    obtain ⟨nl', hnl, hn16, hl1, hl2, _⟩ := rightB_spec hR
    exact ⟨by omega, hl1, hl2⟩
  obtain ⟨hn16, hl1, hl2⟩ := hsp
  have hk : ∀ v ∈ l, v.kids.length ≤ 1000 := fun v hv => (hok v hv).2
  have hfine := right_fine (nl := nl) hR hk
  have hRight := Right_go l lv nl w hN hn16 hl1 hl2 hk
  rw [hR] at hRight
  have hWd0 := fun W (t : Touch [] w W) => words_any l nl hok hfine lv (l.length - 1) (by omega) l.length (by omega) hcnt W (hN.quiet t) (hT.touch t)
  have hWd := Lib.hid hWd0
  obtain ⟨g, c, rfl, hlc, _⟩ := id hN
  have hwl : IntKind.i64.wrap ((l.length : Int) - 1) = ((l.length - 1 : Nat) : Int) := by rw [IntKind.wrap_i64]; omega
  clear hN hok hfine hR hWd0
  go_enter Tryz.func11, Tryz.ntmps11
  go_wp2_with fail
  refine hRight.mono ?_
  rintro _ w1 ⟨rfl, t1⟩
  clear hRight
  rcases Nat.eq_zero_or_pos nl with h0 | h0
  case' inl =>
    have hpos : ¬ (nl : Int) > 0 := by omega
    clear h0
    obtain ⟨pre, hpre⟩ : ∃ p : List ByteArray, p = [] := ⟨_, rfl⟩
    have HP := Lib.hid (And.intro (show WordsAt w1 w.heap.size (.slice none 0 0) pre by rw [hpre]; exact World.ownsRow_nil _ _ _ _) (And.intro t1 (And.intro (show ∀ s ∈ pre, s.size ≤ 600 by rw [hpre]; intro s hs; cases hs) (And.intro (show pre.length ≤ 100 by rw [hpre]; decide) (show nl = 0 → pre = [] from fun _ => hpre)))))
    clear hpre
    obtain ⟨wb, hwb⟩ : ∃ z, z = w1 := ⟨_, rfl⟩
    subst hwb
    clear t1 hT
    go_upto_region 12 with fail
    clear hpos
  case' inr =>
    have hpos : (nl : Int) > 0 := by omega
    have h00 : WordsAt (w1.alloc (.cells #[.string bOpen] 9)) w.heap.size (.slice none 0 0) [] := World.ownsRow_nil _ _ _ _
    have hW1 : WordsAt (w1.alloc (.cells #[.string bOpen] 9)) 0 (.slice (some ⟨w1.heap.size, 0, none⟩) 1 1) [bOpen] := words_row (ws := [bOpen]) (Blk.new w1 _ _) (Nat.zero_le _) (by unfold maxLen; simp)
    have hbb : ([] : List ByteArray).length + [bOpen].length ≤ 10000000 := by decide
    have tt := t1.alloc (.cells #[.string bOpen] 9)
    have hwb := tt.size
    have HTT := Lib.hid (And.intro tt h00)
    clear t1 tt
    go_wp2_with (at_builtin; refine wpList_words rfl _ _ rfl _ _ _ _ w.heap.size 0 rfl h00 rfl hW1 hbb hwb ?_)
    intro v2 w2 k1 k2 k3 k4
    have k1 : WordsAt w2 w.heap.size v2 (preF 0) := by simpa [preF] using k1
    have t2 := row_app HTT.out.2 HTT.out.1 k2
    clear k2 k3 k4 h00 hW1 hbb hwb HTT
    go_wp2_with fail
    go_loopw [17, 5] (fun i v wr => ∃ j : Nat, j ≤ nl ∧ i = .int .i64 j ∧ WordsAt wr w.heap.size v (preF j) ∧ Touch [] w wr) (fun i _ _ => nl - (intOf i).toNat)
    case atStart => exact ⟨0, Nat.zero_le _, rfl, k1, t2⟩
    case' round =>
      obtain ⟨j, hj, rfl, hR, t3⟩ := hrel
      clear k1 t2
      by_cases hlt : j < nl
      case pos =>
        have hlt2 : (j : Int) < nl := by omega
        have ek : IntKind.i64.wrap ((j : Int) + 1) = (j + 1 : Nat) := by rw [IntKind.wrap_i64]; omega
        have hLo := local_any (j : Int) (by omega) (by omega) wr (hT.touch t3)
        have hlen := preF_len j
        have H3 := Lib.hid (And.intro hR t3)
        clear hR t3
        go_wp2_with fail
        refine hLo.mono ?_
        rintro _ w4 ⟨rfl, t4⟩
        have tt := (H3.out.2.trans t4 (by simp)).alloc (.cells #[.string (localT (j : Int))] 9)
        have hR4 : WordsAt (w4.alloc (.cells #[.string (localT (j : Int))] 9)) w.heap.size u5 (preF j) := (H3.out.1.quiet t4).quiet ((Touch.refl [] w4).alloc _)
        have hW1 : WordsAt (w4.alloc (.cells #[.string (localT (j : Int))] 9)) 0 (.slice (some ⟨w4.heap.size, 0, none⟩) 1 1) [localT (j : Int)] := words_row (ws := [localT (j : Int)]) (Blk.new w4 _ _) (Nat.zero_le _) (by unfold maxLen; simp)
        have hbb : (preF j).length + [localT (j : Int)].length ≤ 10000000 := by simp only [List.length_cons, List.length_nil]; omega
        have hwb := tt.size
        have HTT := Lib.hid (And.intro tt hR4)
        clear hLo t4 tt
        go_wp2_with (at_builtin; refine wpList_words rfl _ _ rfl _ _ _ _ w.heap.size 0 rfl hR4 rfl hW1 hbb hwb ?_)
        intro v5 w5 k1 k2 k3 k4
        rw [preF_succ] at k1
        have t5 := row_app HTT.out.2 HTT.out.1 k2
        have H5 := Lib.hid (And.intro k1 t5)
        clear k1 k2 k3 k4 t5 hR4 hW1 hbb hwb HTT hlen
        go_wp2_with fail
        go_roundw
        case rel => exact ⟨j + 1, by omega, vint (by omega), H5.out.1, H5.out.2⟩
        case measure => simp only [intOf]; omega
      case' neg =>
        obtain rfl : j = nl := by omega
        have hlt2 : ¬ (j : Int) < j := by omega
        have hlen := preF_len j
        have tt := t3.alloc (.cells #[.string bClose] 9)
        have hR4 : WordsAt (wr.alloc (.cells #[.string bClose] 9)) w.heap.size u5 (preF j) := hR.quiet ((Touch.refl [] wr).alloc _)
        have hW1 : WordsAt (wr.alloc (.cells #[.string bClose] 9)) 0 (.slice (some ⟨wr.heap.size, 0, none⟩) 1 1) [bClose] := words_row (ws := [bClose]) (Blk.new wr _ _) (Nat.zero_le _) (by unfold maxLen; simp)
        have hbb : (preF j).length + [bClose].length ≤ 10000000 := by simp only [List.length_cons, List.length_nil]; omega
        have hwb := tt.size
        have HTT := Lib.hid (And.intro tt hR4)
        clear hR t3 tt
        go_wp2_with (at_builtin; refine wpList_words rfl _ _ rfl _ _ _ _ w.heap.size 0 rfl hR4 rfl hW1 hbb hwb ?_)
        intro v5 wb k1 k2 k3 k4
        have t5 := row_app HTT.out.2 HTT.out.1 k2
        have HP := Lib.hid (And.intro k1 (And.intro t5 (And.intro (preF_size j (by omega)) (And.intro (show (preF j ++ [bClose]).length ≤ 100 by rw [List.length_append, hlen]; simp; omega) (show (j = 0 → preF j ++ [bClose] = []) from fun e => by omega)))))
        clear k1 k2 k3 k4 t5 hR4 hW1 hbb hwb HTT hlen hT
        generalize preF j ++ [bClose] = pre at HP
        go_upto_region 12 with fail
  all_goals
    have hWd1 := hWd.out wb HP.out.2.1
    go_wp2_with fail
    refine hWd1.mono ?_
    rintro _ w2 ⟨v, ws, rfl, hv, hr, hlen, hsz, t2⟩
    obtain ⟨va, vc, rfl⟩ := own_slice' hv
    have k0 := HP.out.1.quiet t2
    have T2 := HP.out.2.1.trans t2 (by simp)
    have hb0 : pre.length + ws.length ≤ 10000000 := by have := HP.out.2.2.2.1; omega
    have hbs := T2.size
    have HH := Lib.hid (And.intro hr (And.intro hlen (And.intro hsz (And.intro T2 k0))))
    clear hWd1 hr hlen hsz T2 t2
    go_wp2_with (at_builtin; refine wpList_words rfl _ _ rfl _ _ _ _ w.heap.size wb.heap.size rfl k0 rfl hv hb0 hbs ?_)
    intro v3 w3 k1 k2 k3 k4
    obtain ⟨hr, hlen, hsz, T2, k0'⟩ := HH.out
    have T3 := row_app k0' T2 k2
    have T4 := T3.alloc (.cells #[.string .empty] 9)
    have hW1 : WordsAt (w3.alloc (.cells #[.string .empty] 9)) 0 (.slice (some ⟨w3.heap.size, 0, none⟩) 1 1) [.empty] := words_row (ws := [.empty]) (Blk.new w3 _ _) (Nat.zero_le _) (by unfold maxLen; simp)
    have k5 : WordsAt (w3.alloc (.cells #[.string .empty] 9)) w.heap.size v3 (pre ++ ws) := k1.quiet ((Touch.refl [] w3).alloc _)
    have hpl := HP.out.2.2.2.1
    have hb1 : (pre ++ ws).length + [ByteArray.empty].length ≤ 10000000 := by simp only [List.length_cons, List.length_nil, List.length_append]; omega
    have hwb := T4.size
    have HX := Lib.hid (And.intro T4 (And.intro k5 (And.intro hr (And.intro hlen hsz))))
    clear hr hlen hsz T2 T3 T4 k1 k2 k3 k4 hv hb0 k0 k0' hbs
    go_wp2_with (at_builtin; refine wpList_words rfl _ _ rfl _ _ _ _ w.heap.size 0 rfl k5 rfl hW1 hb1 hwb ?_)
    intro v4 w4 j1 j2 j3 j4
    obtain ⟨T4, k6, hr, hlen, hsz⟩ := HX.out
    have j1 : WordsAt w4 w.heap.size v4 (pre ++ ws ++ [ByteArray.empty]) := by simpa using j1
    have T5 := row_app k6 T4 j2
    obtain ⟨g4, c4, hv4⟩ : ∃ g4 c4, v4 = .slice (some ⟨g4, 0, none⟩) (pre ++ ws ++ [ByteArray.empty]).length c4 := by
      rcases j1.2 with ⟨_, h0⟩ | ⟨g4, cap, cur, e, _⟩
      · simp at h0
      · exact ⟨g4, cap, e⟩
    subst hv4
    have hcap : (pre ++ ws ++ [ByteArray.empty]).length ≤ c4 := by
      rcases j1.2 with ⟨_, h0⟩ | ⟨g4, cap, cur, e, _, _, h, _⟩
      · simp at h0
      · injection e with e1 e2 e3; omega
    have hg4 : g4 < w4.heap.size := (World.ownsRow.lt j1 g4 rfl).2
    have hl := text_len (pre ++ ws) (fun s hs => by
      rcases List.mem_append.1 hs with h | h
      · exact HP.out.2.2.1 s h
      · exact hsz s h)
    have hwl2 : (pre ++ ws ++ [ByteArray.empty]).length = pre.length + ws.length + 1 := by simp; omega
    have hpw : (pre ++ ws).length = pre.length + ws.length := by simp
    have hJ := Tryz.strings_Join g4 0 c4 (pre ++ ws ++ [ByteArray.empty]) ⟨#[32]⟩ w4 (fun i x hx => by
      have hi := (List.getElem?_eq_some_iff.1 hx).1
      rw [Nat.zero_add, j1.cell hi, List.getD, hx]
      rfl) hg4 (by omega) hcap (by omega)
    have HY := Lib.hid (And.intro T5 hr)
    clear T4 k6 hr hlen hsz T5 j1 j2 j3 j4 hcap hl k5 hW1 hwl hb1 hpw
    rw [hwl2] at hJ ⊢
    clear hwl2
    go_wp2_with fail
    refine hJ.mono ?_
    rintro _ w5 ⟨rfl, b5⟩
    go_wp2
    go_ret
    exact ⟨pre, ws, HP.out.2.2.2.2, HY.out.2, by simp [textF], HY.out.1.trans (Touch.of_below b5 []) (by simp)⟩

theorem Text_zero (l : List NodeV) (lv : Value) (w : World) (hN : NodesAt w lv l) (hR : rightB l 0 = true) (hok : NodesOk l) (hcnt : cntF l l.length (l.length - 1) ≤ 1000000) (hT : TabsOk w) :
    Calls Tryz.prog 11 #[lv, .int .i64 0] w fun e w' => ∃ ws, wordsR l l.length (l.length - 1) ws ∧ e = .returned (.string (textF ws)) ∧ Touch [] w w' := by
  have e0 : ((0 : Nat) : Int) = 0 := rfl
  have h := Text_go l 0 lv w hN (by rw [e0]; exact hR) hok hcnt hT
  rw [e0] at h
  refine h.mono fun e w' ⟨pre, ws, h1, h2, h3, h4⟩ => ⟨ws, h2, ?_, h4⟩
  rw [h1 rfl] at h3
  exact h3
end Go.Proofs.YtnhhflnanogpjaaGreatDoor
