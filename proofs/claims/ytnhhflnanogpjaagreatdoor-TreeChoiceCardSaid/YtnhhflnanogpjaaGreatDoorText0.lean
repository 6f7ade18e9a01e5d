/- The text of a tree without locals and without a choice. -/
import Derived.Test.YtnhhflnanogpjaaGreatDoorWord4
import Derived.Test.YtnhhflnanogpjaaGreatDoorRight3
import Derived.Test.YtnhhflnanogpjaaGreatDoorMean
namespace Go.Proofs.YtnhhflnanogpjaaGreatDoor
open Go.RowKit

def textF (ws : List ByteArray) : ByteArray := ⟨(Lib.join ((ws ++ [ByteArray.empty]).map (·.data.toList)) (⟨#[32]⟩ : ByteArray).data.toList).toArray⟩

theorem lens_le : ∀ (xs : List ByteArray), (∀ s ∈ xs, s.size ≤ 600) → Lib.lens (xs.map (·.data.toList)) ≤ 600 * xs.length
  | [], _ => by simp [Lib.lens]
  | x :: xs, h => by
    have h1 := lens_le xs (fun s hs => h s (by simp [hs]))
    have h2 := h x (by simp)
    have h3 : x.data.toList.length = x.size := str_size x
    simp only [List.map_cons, Lib.lens, List.length_cons, List.sum_cons] at h1 ⊢
    omega
theorem text_len (ws : List ByteArray) (h : ∀ s ∈ ws, s.size ≤ 600) : (Lib.join ((ws ++ [ByteArray.empty]).map (·.data.toList)) (⟨#[32]⟩ : ByteArray).data.toList).length ≤ 700 * (ws.length + 1) := by
  have h1 := lens_le (ws ++ [ByteArray.empty]) (fun s hs => by
    rcases List.mem_append.1 hs with h' | h'
    · exact h s h'
    · rw [List.mem_singleton.1 h']; decide)
  cases e : (ws ++ [ByteArray.empty]) with
  | nil => simp at e
  | cons x r =>
    rw [e] at h1
    have hl : (ws ++ [ByteArray.empty]).length = r.length + 1 := by rw [e]; rfl
    rw [List.length_append, List.length_singleton] at hl
    rw [List.map_cons] at h1 ⊢
    rw [Lib.join_length, show (⟨#[32]⟩ : ByteArray).data.toList.length = 1 from rfl, List.length_map]
    simp only [List.length_cons] at h1
    omega

set_option maxRecDepth 100000 in
set_option maxHeartbeats 400000 in
theorem Text_zero (l : List NodeV) (lv : Value) (w : World) (hN : NodesAt w lv l) (hR : rightB l 0 = true) (hok : NodesOk l) (hnc : ∀ i, i < l.length → (l.getD i NodeV.none).kind ≠ 11) (hcnt : cntF l l.length (l.length - 1) ≤ 1000000) (hT : TabsOk w) :
    Calls Tryz.prog 11 #[lv, .int .i64 0] w fun e w' => ∃ ws, wordsR l l.length (l.length - 1) ws ∧ e = .returned (.string (textF ws)) ∧ Touch [] w w' := by
  have e0 : ((0 : Nat) : Int) = 0 := rfl
  have hR0 : rightB l ((0 : Nat) : Int) = true := by rw [e0]; exact hR
  have hsp : 1 ≤ l.length ∧ l.length ≤ 100 := by
    obtain ⟨nl', hnl, hn16, hl1, hl2, _⟩ := rightB_spec hR
    exact ⟨hl1, hl2⟩
  obtain ⟨hl1, hl2⟩ := hsp
  have hk : ∀ v ∈ l, v.kids.length ≤ 1000 := fun v hv => (hok v hv).2
  have hfine := right_fine (nl := 0) hR0 hk
  have hRight := Right_go l lv 0 w hN (by omega) hl1 hl2 hk
  rw [hR0, e0] at hRight
  have hWd := fun W (t : Touch [] w W) => words_any l 0 hok hfine hnc lv (l.length - 1) (by omega) l.length (by omega) hcnt W (hN.quiet t) (hT.touch t)
  obtain ⟨g, c, rfl, hlc, _⟩ := id hN
  have hwl : IntKind.i64.wrap ((l.length : Int) - 1) = ((l.length - 1 : Nat) : Int) := by rw [IntKind.wrap_i64]; omega
  clear hN hok hnc hfine hR hR0 e0
  go_enter Tryz.func11, Tryz.ntmps11
  go_wp2_with fail
  refine hRight.mono ?_
  rintro _ w1 ⟨rfl, t1⟩
  have hWd1 := hWd w1 t1
  clear hWd hRight
  go_wp2_with fail
  refine hWd1.mono ?_
  rintro _ w2 ⟨v, ws, rfl, hv, hr, hlen, hsz, t2⟩
  obtain ⟨va, vc, rfl⟩ := own_slice' hv
  have T2 := t1.trans t2 (by simp)
  have h0 : WordsAt w2 w2.heap.size (.slice none 0 0) [] := World.ownsRow_nil _ _ _ _
  have hb0 : ([] : List ByteArray).length + ws.length ≤ 10000000 := by simp only [List.length_nil]; omega
  have HH := Lib.hid (And.intro hr (And.intro hlen (And.intro hsz T2)))
  clear hWd1 hr hlen hsz T2 t1 t2
  go_wp2_with (at_builtin; refine wpList_words rfl _ _ rfl _ _ _ _ w2.heap.size w1.heap.size rfl h0 rfl hv hb0 (Nat.le_refl _) ?_)
  intro v3 w3 k1 k2 k3 k4
  have k1 : WordsAt w3 w2.heap.size v3 ws := by simpa using k1
  have T3 : Touch [] w2 w3 := (Touch.refl [] w2).grown k2 (fun k hk => by cases hk)
  obtain ⟨hr, hlen, hsz, T2⟩ := HH.out
  have T4 := (T2.trans T3 (by simp)).alloc (.cells #[.string .empty] 9)
  have hW1 : WordsAt (w3.alloc (.cells #[.string .empty] 9)) 0 (.slice (some ⟨w3.heap.size, 0, none⟩) 1 1) [.empty] := words_row (ws := [.empty]) (Blk.new w3 _ _) (Nat.zero_le _) (by unfold maxLen; simp)
  have k5 : WordsAt (w3.alloc (.cells #[.string .empty] 9)) w2.heap.size v3 ws := k1.quiet ((Touch.refl [] w3).alloc _)
  have hb1 : ws.length + [ByteArray.empty].length ≤ 10000000 := by simp only [List.length_cons, List.length_nil]; omega
  have hwb : w2.heap.size ≤ (w3.alloc (.cells #[.string .empty] 9)).heap.size := Nat.le_trans k4 (by simp)
  have hnn : ∀ g, some g = v3.ownBlock → w2.heap.size ≤ g := fun g hg => (World.ownsRow.lt k5 g hg.symm).1
  have HX := Lib.hid (And.intro T4 (And.intro hnn (And.intro hr (And.intro hlen hsz))))
  clear hr hlen hsz T2 T3 T4 k1 k2 k3 k4 hnn h0 hv hb0
  go_wp2_with (at_builtin; refine wpList_words rfl _ _ rfl _ _ _ _ w2.heap.size 0 rfl k5 rfl hW1 hb1 hwb ?_)
  intro v4 w4 j1 j2 j3 j4
  obtain ⟨T4, hnn, hr, hlen, hsz⟩ := HX.out
  have j1 : WordsAt w4 w2.heap.size v4 (ws ++ [.empty]) := by simpa using j1
  have T5 : Touch [] w w4 := T4.grown j2 (fun k hk => by have := hnn k hk.symm; have := HH.out.2.2.2.size; exact .inr (by omega))
  obtain ⟨g4, c4, hv4⟩ : ∃ g4 c4, v4 = .slice (some ⟨g4, 0, none⟩) (ws ++ [ByteArray.empty]).length c4 := by
    rcases j1.2 with ⟨_, h0⟩ | ⟨g4, cap, cur, e, _⟩
    · simp at h0
    · exact ⟨g4, cap, e⟩
  subst hv4
  have hcap : (ws ++ [ByteArray.empty]).length ≤ c4 := by
    rcases j1.2 with ⟨_, h0⟩ | ⟨g4, cap, cur, e, _, _, h, _⟩
    · simp at h0
    · injection e with e1 e2 e3; omega
  have hg4 : g4 < w4.heap.size := (World.ownsRow.lt j1 g4 rfl).2
  have hl := text_len ws hsz
  have hwl2 : (ws ++ [ByteArray.empty]).length = ws.length + 1 := by simp
  have hJ := Tryz.strings_Join g4 0 c4 (ws ++ [ByteArray.empty]) ⟨#[32]⟩ w4 (fun i x hx => by
    have hi := (List.getElem?_eq_some_iff.1 hx).1
    rw [Nat.zero_add, j1.cell hi, List.getD, hx]
    rfl) hg4 (by omega) hcap (by omega)
  have HY := Lib.hid (And.intro T5 hr)
  clear T4 hnn hr hlen hsz T5 j1 j2 j3 j4 hcap hl k5 hW1 hwl hb1
  rw [hwl2] at hJ ⊢
  clear hwl2
  go_wp2_with fail
  refine hJ.mono ?_
  rintro _ w5 ⟨rfl, b5⟩
  go_wp2
  go_ret
  exact ⟨ws, HY.out.2, by simp [textF], HY.out.1.trans (Touch.of_below b5 []) (by simp)⟩
end Go.Proofs.YtnhhflnanogpjaaGreatDoor
