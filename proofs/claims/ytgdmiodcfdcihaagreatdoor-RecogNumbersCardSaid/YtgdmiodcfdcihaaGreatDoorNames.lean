/- rhytonlaw16.names: the first twelve texts, of up to thirty bytes. -/
import Derived.Test.YtgdmiodcfdcihaaGreatDoorBack
import Derived.Test.YtgdmiodcfdcihaaGreatDoorLawS
import Derived.Maps.AppendAt
import Derived.OwnWalk
namespace Go.Proofs.YtgdmiodcfdcihaaGreatDoor
open Go.RowKit

theorem info_str : (Tryz.prog.info? 9).map (fun i => (i.zero, i.size, i.bytes)) = some (some (.string .empty), 1, 16) := by kernel_rfl

/-- a text's first thirty bytes -/
def cut30 (s : ByteArray) : Small := ⟨s.extract 0 (min s.size 30), by rw [ByteArray.size_extract]; omega⟩
/-- the names that are taken -/
def namesF (ss : List ByteArray) : List Small := (ss.take 12).map cut30

set_option maxRecDepth 100000 in
set_option maxHeartbeats 1600000 in
theorem names_any (W : World) (v : Value) (ss : List ByteArray) (hS : Strs W v ss) :
    Calls Tryz.prog 16 #[v] W fun e w' => ∃ u, e = .returned u ∧ w'.ownsRow W.heap.size 9 1 u (namesF ss).length ((namesF ss).map fun z => .string z.1) ∧ Touch [] W w' := by
  obtain ⟨i0, hi, hz0, hz1, hz2⟩ := info_parts info_str
  obtain ⟨a, len, cap, rfl, ⟨hlen, hlb⟩, hcell⟩ : ∃ a len cap, v = .slice a len cap ∧ (len = ss.length ∧ len ≤ 140737488355328) ∧ ∀ j, j < len → ∃ b off, a = some ⟨b, off, none⟩ ∧ b < W.heap.size ∧ W.cell? ⟨b, off + j, none⟩ = some (.string (ss.getD j .empty)) ∧ (ss.getD j .empty).size ≤ maxLen := by
    rcases hS.form with ⟨rfl, rfl⟩ | ⟨a, cap, rfl, _, rfl⟩ | ⟨b, off, cap, rfl, hb, hle, hce, hc⟩
    · exact ⟨none, 0, 0, rfl, ⟨rfl, by omega⟩, by simp⟩
    · exact ⟨some a, 0, cap, rfl, ⟨rfl, by omega⟩, by simp⟩
    · refine ⟨_, _, _, rfl, ⟨rfl, by omega⟩, fun j hj => ⟨b, off, rfl, hb, hc j hj, hS.size _ ?_⟩⟩
      simp [List.getD_eq_getElem?_getD, List.getElem?_eq_getElem hj]
  go_enter Tryz.func16, Tryz.ntmps16
  go_wp2_with fail
  go_loopw [8, 3] (fun i out wr => ∃ k : Nat, k ≤ len ∧ i = .int .i64 k ∧ wr.ownsRow W.heap.size 9 1 out (namesF (ss.take k)).length ((namesF (ss.take k)).map fun z => .string z.1) ∧ Touch [] W wr) (fun i _ _ => len - (intOf i).toNat)
  case atStart => exact ⟨0, Nat.zero_le _, rfl, World.ownsRow_nil _ _ _ _, Touch.refl _ _⟩
  case round =>
    obtain ⟨k, hk, rfl, hr, tr⟩ := hrel
    by_cases hlt : k < len
    · obtain ⟨b, off, rfl, hb, hc0, hsz⟩ := hcell k hlt
      have hc := (tr.cell (p := ⟨b, off + k, none⟩) hb (by simp)).trans hc0
      have hmi : k < ss.length := by omega
      have htk : ss.take (k + 1) = ss.take k ++ [ss.getD k .empty] := by
        rw [List.take_add_one]
        simp [List.getD_eq_getElem?_getD, List.getElem?_eq_getElem hmi]
      obtain ⟨x, hx⟩ : ∃ x, ss.getD k .empty = x := ⟨_, rfl⟩
      rw [hx] at hc htk hsz
      by_cases h12 : k < 12
      · have hnext : namesF (ss.take (k + 1)) = namesF (ss.take k) ++ [cut30 x] := by
          unfold namesF
          rw [htk, List.take_of_length_le (l := ss.take k ++ [x]) (by simp; omega), List.take_of_length_le (l := ss.take k) (by simp; omega), List.map_append]
          rfl
        have hlen12 : (namesF (ss.take k)).length ≤ 12 := by unfold namesF; simp; omega
        obtain ⟨n, hn⟩ : ∃ n, (namesF (ss.take k)).length = n := ⟨_, rfl⟩
        have hn12 : n ≤ 12 := by omega
        have hnn : (namesF (ss.take (k + 1))).length = n + 1 := by rw [hnext]; simp [hn]
        have hml : (namesF (ss.take (k + 1))).map (fun z : Small => Value.string z.1) = ((namesF (ss.take k)).map fun z : Small => Value.string z.1) ++ [.string (cut30 x).1] := by rw [hnext]; simp
        obtain ⟨L, hL⟩ : ∃ L, ((namesF (ss.take k)).map fun z : Small => Value.string z.1) = L := ⟨_, rfl⟩
        rw [hn, hL] at hr
        rw [hL] at hml
        have HN := Lib.hid hnn
        have HM := Lib.hid hml
        have hszw := tr.size
        clear htk hx hc0 hlen12 hnext hnn hml hn hL
        rcases (show x.size ≤ 30 ∨ 30 < x.size by omega) with h30 | h30
        all_goals
          have HC : Hid ((cut30 x).1 = x.extract 0 (if x.size ≤ 30 then x.size else 30)) := by
            show x.extract 0 (min x.size 30) = _
            first | rw [if_pos h30, Nat.min_eq_left h30] | rw [if_neg (by omega), Nat.min_eq_right (by omega)]
        case' inl => rw [if_pos h30, show x.extract 0 x.size = x from str_ext (by rw [ext_list, ← str_size, List.take_length]; rfl)] at HC
        case' inr => rw [if_neg (by omega)] at HC
        all_goals
          go_wp2_with (at_builtin; refine wpList_append_own_at _ rfl _ _ 34 rfl W.heap.size 9 i0 (.string .empty) 1 16 Tryz.underlying34 hi hz0 hz1 hz2 rfl (by decide) _ _ _ rfl (hr.alloc _) ⟨wr.heap.size, 0, none⟩ 1 1 [_] rfl rfl (cell_one_new _ _ _) (by intro u hu; simp at hu; subst hu; rfl) (by unfold maxLen; omega) (by omega) (by simp; omega) ?_; intro v' w1 hown' hgrow hnil hloc; go_frame)
          refine ⟨⟨k + 1, by omega, rfl, ?_, ?_⟩, by simp only [intOf]; omega⟩
          · rw [HN.out, HM.out, HC.out]
            exact hown'
          · exact (tr.alloc _).grown hgrow (fun j hj => .inr (hr.lt j hj).1)
      · have hnext : namesF (ss.take (k + 1)) = namesF (ss.take k) := by
          unfold namesF
          rw [List.take_take, List.take_take]
          congr 2
          omega
        rw [← hnext] at hr
        clear hnext htk hx hc0
        go_wp2_with fail
        refine ⟨⟨k + 1, by omega, rfl, hr, tr⟩, ?_⟩
        simp only [intOf]
        omega
    · obtain rfl : k = len := by omega
      rw [List.take_of_length_le (by omega)] at hr
      go_wp2_with fail
      go_ret
      exact ⟨_, rfl, hr, tr⟩
end Go.Proofs.YtgdmiodcfdcihaaGreatDoor
