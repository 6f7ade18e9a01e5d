/- EngineLoops: what the plain law asks of + and =, of the code that is laid down, and of the law's own sum. -/
import Derived.Test.YtdokeddjcpnmiaaGreatDoorJLwX
import Derived.Test.YtdokeddjcpnmiaaGreatDoorJPlX
import Derived.Test.YtdokeddjcpnmiaaGreatDoorJOpY
import Derived.Test.YtdokeddjcpnmiaaGreatDoorJRunX
namespace Go.Proofs.YtdokeddjcpnmiaaGreatDoor
open Go.RowKit
namespace En

theorem lD_op {n : Int} (hn : n = 11 ∨ n = 21) (S : PS) (st : List Int) (x y : Int) (h : st.length + 2 ≤ 128) : lD n { S with st := st ++ [x, y] } = (0, { S with st := st ++ [twoF n x y] }) := by
  unfold lD
  rw [if_pos hn]
  unfold doP
  have hl : (st ++ [x, y]).length = st.length + 2 := by simp
  have hd : (st ++ [x, y]).drop ((st ++ [x, y]).length - 2) = [x, y] := by rw [hl, show st.length + 2 - 2 = st.length by omega, List.drop_left]
  have ht : (st ++ [x, y]).take ((st ++ [x, y]).length - 2) = st := by rw [hl, show st.length + 2 - 2 = st.length by omega, List.take_left]
  have hz : (twoR n x y) = (twoF n x y, 0) := by
    unfold twoR
    rw [if_neg (by rintro ⟨_, h1 | h1⟩ <;> rcases hn with h2 | h2 <;> omega)]
  rw [if_neg (by show ¬ (st ++ [x, y]).length < 2; rw [hl]; omega)]
  show (let r := act2 n ((st ++ [x, y]).drop ((st ++ [x, y]).length - 2)) { S with st := (st ++ [x, y]).take ((st ++ [x, y]).length - 2) }; _) = _
  rw [hd, ht]
  show (if (twoR n x y).2 = 0 then (if st.length + 1 ≤ 128 then ((0 : Int), ({ S with st := st ++ [(twoR n x y).1] } : PS)) else _) else _) = _
  rw [hz, if_pos rfl, if_pos (by omega)]
/-- the engine that is run -/
def dlM (S : PS) (L : List (Int × Int × Int)) : M := { ({ M.new S ins0' with words := wordsT } : M).laid L with words := wordsT ++ [(5, 1, 0)] }
theorem loopL_op (asks : Bool) (b a c k : Int) : ∀ x ∈ loopL asks b a c k, (0 ≤ x.1 ∧ x.1 < 256) ∧ (x.1 ≠ 12 ∧ x.1 ≠ 13 ∧ x.1 ≠ 14) ∧ 0 ≤ x.2.1 ∧ x.2.1 ≤ 1000000 := by
  intro x hx
  unfold loopL at hx
  simp only [List.mem_cons, List.not_mem_nil, or_false] at hx
  rcases hx with rfl | rfl | rfl | rfl | rfl | rfl | rfl | rfl | rfl | rfl | rfl | rfl | rfl | rfl <;> first | (refine ⟨⟨?_, ?_⟩, ⟨?_, ?_, ?_⟩, ?_, ?_⟩ <;> (dsimp only; omega)) | (cases asks <;> decide)
theorem dlOne (S : PS) (asks : Bool) (b a c k : Int) (W : List (Int × Int × Int)) (hW : W.length ≤ 1000) (nx : Int) : One ({ dlM S (loopL asks b a c k) with words := W, nx := nx } : M) (loopL asks b a c k) := by
  refine ⟨by show [] ++ codeOf _ = _; rw [List.nil_append], by show [] ++ [_] = _; rw [List.nil_append]; rfl, by show (14 : Nat) ≤ 500; decide, fun x hx => ?_, hW⟩
  obtain ⟨h1, h2, h3, h4⟩ := loopL_op asks b a c k x hx
  exact ⟨h1, h3, h4⟩
theorem w111 : wordsT[110]? = some (2, 4, 0) := by kernel_rfl
theorem w11 : wordsT[10]? = some (1, 11, 0) := by kernel_rfl
theorem w21 : wordsT[20]? = some (1, 21, 0) := by kernel_rfl
theorem word_tab {m : M} {X : List (Int × Int × Int)} (h : m.words = wordsT ++ X) {i : Nat} {u : Int × Int × Int} (hu : wordsT[i]? = some u) : m.word ((i : Int) + 1) = some u := by
  have hi : i < wordsT.length := (List.getElem?_eq_some_iff.1 hu).1
  unfold M.word
  rw [if_neg (by omega), h, show ((i : Int) + 1 - 1).toNat = i by omega, List.getElem?_append_left hi]
  exact hu
theorem dlOk (S : PS) (asks : Bool) (b a c k : Int) : LoopOk lD (dlM S (loopL asks b a c k)) (if asks then 3334 else 5) b a c k := by
  refine ⟨by cases asks <;> rfl, rfl, word_tab (i := 110) rfl w111, word_tab (i := 10) rfl w11, word_tab (i := 20) rfl w21, fun st x y h => ?_, fun st x y h => ?_⟩
  · exact lD_op (.inl rfl) S st x y h
  · exact lD_op (.inr rfl) S st x y h
theorem dl_start (S : PS) (hst : S.st = []) (L : List (Int × Int × Int)) : ({ dlM S L with nx := 181 } : M) = { ((dlM S L).sk []).fk [] with df := 0, on := 0, nx := 181 } := by
  have : S = { S with st := [] } := by cases S; simp at hst; subst hst; rfl
  show ({ dlM S L with nx := 181 } : M) = { dlM { S with st := [] } L with nx := 181 }
  rw [← this]
/-- the sum that the law makes, and whether the loop was left early -/
theorem wantG_early (e b k : Int) : ∀ (f : Nat) (i s : Int), (wantG e b k f i s).2 = true → e ≠ 0
  | 0, _, _, h => by cases h
  | f + 1, i, s, h => by
    unfold wantG at h
    by_cases h1 : e ≠ 0 ∧ (200 : Int) - (f + 1 : Nat) = e
    · exact h1.1
    · rw [if_neg h1] at h
      by_cases h2 : i < b ∧ i + k ≥ b
      · rw [if_pos h2] at h; cases h
      · rw [if_neg h2] at h
        exact wantG_early e b k f _ _ h
theorem wantG_left (e b k : Int) (hk : 1 ≤ k) (he : 1 ≤ e) (h2 : e < 200) (f : Nat) : ∀ (i s : Int), b ≤ i → 200 - (f : Int) ≤ e → (wantG e b k f i s).2 = true := by
  induction f with
  | zero => intro i s _ h; exact absurd h (by omega)
  | succ f ih =>
    intro i s hi h
    unfold wantG
    by_cases h3 : e ≠ 0 ∧ (200 : Int) - (f + 1 : Nat) = e
    · rw [if_pos h3]
    · rw [if_neg h3, if_neg (by omega)]
      exact ih (i + k) _ (by omega) (by omega)
end En
end Go.Proofs.YtdokeddjcpnmiaaGreatDoor
