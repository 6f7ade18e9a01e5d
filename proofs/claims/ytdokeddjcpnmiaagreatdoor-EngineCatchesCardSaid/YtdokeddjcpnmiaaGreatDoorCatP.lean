/- EngineCatches: the engine and the input that the law makes, plain; what is done to the input in the engine. -/
import Derived.Test.YtdokeddjcpnmiaaGreatDoorECellR
import Derived.Test.YtdokeddjcpnmiaaGreatDoorJPlX
import Derived.Test.YtdokeddjcpnmiaaGreatDoorJRunX
namespace Go.Proofs.YtdokeddjcpnmiaaGreatDoor
open Go.RowKit
namespace En

section
variable {w : World} {g : Nat} {p : Lay} {F : List Nat} {m : M}
theorem word_eng (h : EngAt w g p F m) (ht : m.I.cur.text.size ≤ 1000) : Calls Tryz.prog 34 #[.pointer (some ⟨p.i, 0, none⟩)] w fun e w' => e = .returned (.string (wordS m.I.cur.text m.I.cur.on)) ∧ Keep w g p F { m with I := { m.I with cur := { m.I.cur with on := wordN m.I.cur.text m.I.cur.on } } } w' := by
  obtain ⟨cv, ev, wv, Ff, FS, FI, h, rfl⟩ := h
  refine (Word_in w p.i FI m.I h.inp ht).mono ?_
  rintro _ w' ⟨rfl, F', h1, t1, s1⟩
  exact ⟨rfl, h.inpt h1 t1 s1⟩
theorem open_eng (h : EngAt w g p F m) (s : ByteArray) (hs : s.size ≤ 1000) (hd : m.I.outer.length < 8) (hm : m.I.many < 1000000) : Calls Tryz.prog 31 #[.pointer (some ⟨p.i, 0, none⟩), .string s] w fun e w' => e = .returned (.int .i64 0) ∧ Keep w g p F { m with I := m.I.open_ s } w' := by
  obtain ⟨cv, ev, wv, Ff, FS, FI, h, rfl⟩ := h
  refine (Open_yes w p.i FI m.I s h.inp hs hd hm).mono ?_
  rintro _ w' ⟨rfl, F', h1, t1, s1⟩
  exact ⟨rfl, h.inpt h1 t1 s1⟩
end
theorem CeG.code_nil {w wr : World} {g : Nat} {p : Lay} {m : M} {LC : List (Int × Int × Int)} {LW : List Int} {cv wv : Value} (h : CeG w g p m LC LW cv wv wr) : CeG w g p m [] LW (.slice none 0 0) wv wr := by
  obtain ⟨⟨F', h1, h2, h3, h4⟩, h5, h6, h7, h8⟩ := h
  exact ⟨⟨F', h1, h2, by simp [rowOf], h4⟩, CodeRow.none _ _, h6, by simp [rowOf], h8⟩
def s3 : ByteArray := ⟨#[111, 110, 101, 32, 116, 119, 111, 32, 116, 104, 114, 101, 101]⟩
def I1 : Ins := ins0'.open_ s3
def I2 : Ins := { I1 with cur := { I1.cur with on := wordN I1.cur.text I1.cur.on } }
theorem I2_on : I2.cur.on ≤ s3.size := by
  show wordN s3 _ ≤ s3.size
  unfold wordN
  omega
/-- the input, when j sources were opened -/
structure BtI (I : Ins) (j : Nat) : Prop where
  outer : I.outer.length = 1 + j
  cur : I.cur.text.size ≤ 1000
  all : ∀ o ∈ I.outer, o.text.size ≤ 1000
  many : I.many = 1 + j
  back : (I.cutAll 1).cur.text = s3
theorem I2_bt : BtI I2 0 := ⟨rfl, by show s3.size ≤ 1000; decide, by intro o ho; rw [List.mem_singleton.1 ho]; exact Nat.zero_le _, rfl, rfl⟩
theorem BtI.word {I : Ins} {j : Nat} (h : BtI I j) (n : Nat) : BtI { I with cur := { I.cur with on := n } } j := by
  refine ⟨h.outer, h.cur, h.all, h.many, ?_⟩
  have hb := h.back
  unfold Ins.cutAll at hb ⊢
  by_cases h1 : 1 < I.outer.length
  · rw [if_pos h1] at hb
    rw [if_pos h1]
    exact hb
  · rw [if_neg h1] at hb
    rw [if_neg h1]
    exact hb
theorem BtI.open_ {I : Ins} {j : Nat} (h : BtI I j) (s : ByteArray) (hs : s.size ≤ 1000) : BtI (I.open_ s) (j + 1) := by
  have ho := h.outer
  refine ⟨by show (I.outer ++ [I.cur]).length = _; rw [List.length_append, ho]; rfl, hs, fun o hx => ?_, by show I.many + 1 = _; rw [h.many]; omega, ?_⟩
  · rcases List.mem_append.1 hx with hx | hx
    · exact h.all o hx
    · rw [List.mem_singleton.1 hx]; exact h.cur
  · have hb := h.back
    have e : (I.open_ s).cutAll 1 = ⟨(I.outer ++ [I.cur]).getD 1 .none, (I.outer ++ [I.cur]).take 1, I.many + 1⟩ := by
      unfold Ins.cutAll
      exact if_pos (by show 1 < (I.outer ++ [I.cur]).length; rw [List.length_append, ho]; simp; omega)
    rw [e]
    show ((I.outer ++ [I.cur]).getD 1 .none).text = s3
    unfold Ins.cutAll at hb
    by_cases h1 : 1 < I.outer.length
    · rw [if_pos h1] at hb
      rw [List.getD_eq_getElem?_getD, List.getElem?_append_left h1, ← List.getD_eq_getElem?_getD]
      exact hb
    · rw [if_neg h1] at hb
      have e1 : I.outer.length = 1 := by omega
      rw [List.getD_eq_getElem?_getD, List.getElem?_append_right (by omega), e1]
      exact hb
theorem back_of {I : Ins} {j : Nat} (h : BtI I j) (A : Nat) (hA : A ≤ s3.size) : (backI I 1 A).outer.length = 1 ∧ (backI I 1 A).cur.on = A := by
  have hJ : (if (1 : Int) < I.outer.length then I.cutAll (1 : Int).toNat else I) = I.cutAll 1 := by
    by_cases h1 : (1 : Int) < I.outer.length
    · rw [if_pos h1]; rfl
    · rw [if_neg h1]
      unfold Ins.cutAll
      rw [if_neg (by omega)]
  have hl : (I.cutAll 1).outer.length = 1 := _root_.Go.Proofs.YtdokeddjcpnmiaaGreatDoor.cutAll_len I 1 (by rw [h.outer]; omega)
  unfold backI
  rw [hJ]
  dsimp only
  rw [if_pos (by rw [hl]; rfl), h.back]
  exact ⟨hl, by show (max (min (A : Int) s3.size) 0).toNat = A; omega⟩
def caW : List (Int × Int × Int) := [(2, 1, 0), (2, 9, 0), (2, 8, 0)]
/-- the engine that is run -/
def caM (S : PS) (I : Ins) (n1 n2 : Nat) (code : Int) : M := { ({ M.new S I with words := caW } : M).laid (catchL n1 n2 code) with words := caW ++ [(5, 1, 0)] }
theorem catchL_len (n1 n2 : Nat) (code : Int) (h1 : n1 ≤ 30) (h2 : n2 ≤ 30) : (catchL n1 n2 code).length ≤ 93 := by
  unfold catchL
  split
  · decide
  · rw [List.length_append, flat_len, List.length_append, List.length_replicate]
    show _ + (_ + 3) ≤ 93
    omega
theorem catchL_op (n1 n2 : Nat) (code : Int) : ∀ x ∈ catchL n1 n2 code, ((0 ≤ x.1 ∧ x.1 < 256) ∧ 0 ≤ x.2.1 ∧ x.2.1 ≤ 1000000) ∧ (x.1 ≠ 12 ∧ x.1 ≠ 13 ∧ x.1 ≠ 14) := by
  intro x hx
  unfold catchL at hx
  split at hx
  · rw [List.mem_singleton.1 hx]; decide
  · rcases List.mem_append.1 hx with hx | hx
    · obtain ⟨u, hu, hx⟩ := List.mem_flatten.1 hx
      rw [List.eq_of_mem_replicate hu] at hx
      simp only [List.mem_cons, List.not_mem_nil, or_false] at hx
      rcases hx with rfl | rfl <;> decide
    · rcases List.mem_append.1 hx with hx | hx
      · rw [List.eq_of_mem_replicate hx]; decide
      · simp only [List.mem_cons, List.not_mem_nil, or_false] at hx
        rcases hx with rfl | rfl | rfl <;> (dsimp only; omega)
theorem caOne (S : PS) (I : Ins) (n1 n2 : Nat) (code : Int) (h1 : n1 ≤ 30) (h2 : n2 ≤ 30) (nx : Int) (S' : PS) (fr : List Fr) (I' : Ins) : One ({ caM S I n1 n2 code with nx := nx, S := S', fr := fr, I := I' } : M) (catchL n1 n2 code) := by
  refine ⟨by show [] ++ codeOf _ = _; rw [List.nil_append], by show [] ++ [_] = _; rw [List.nil_append, show ({ M.new S I with words := caW } : M).code.length = 0 from rfl, Nat.zero_add], Nat.le_trans (catchL_len n1 n2 code h1 h2) (by decide), fun x hx => (catchL_op n1 n2 code x hx).1, Nat.le_of_ble_eq_true rfl⟩
theorem caWord (S : PS) (I : Ins) (n1 n2 : Nat) (code : Int) : (caM S I n1 n2 code).word 1 = some (2, 1, 0) ∧ (caM S I n1 n2 code).word 2 = some (2, 9, 0) ∧ (caM S I n1 n2 code).word 3 = some (2, 8, 0) ∧ (caM S I n1 n2 code).word 4 = some (5, 1, 0) := ⟨rfl, rfl, rfl, rfl⟩
/-- the first step: the word is caught -/
theorem caStep (S : PS) (I : Ins) (n1 n2 : Nat) (code : Int) (st : List Int) (I' : Ins) : ({ caM S I n1 n2 code with nx := 3, fr := [tok], S := { S with st := st ++ [4] }, I := I' } : M).step pD = (ran, { caM S I n1 n2 code with nx := 4, fr := [tok, callFr 0 0, ⟨5, st.length, I'.outer.length, I'.cur.on, 0, []⟩], S := { S with st := st }, I := I' }) := by
  rw [step_next (show (3 : Int) ≠ 0 by decide)]
  rw [exec_ctl ({ ({ caM S I n1 n2 code with nx := 3, fr := [tok], S := { S with st := st ++ [4] }, I := I' } : M) with nx := 0 } : M) 3 8 0 rfl]
  have h := ctl_catch (m := ({ caM S I n1 n2 code with nx := 0, fr := [tok], I := I' } : M)) st 4 (5, 1, 0) rfl (by show (1 : Nat) ≤ 126; decide)
  exact h
end En
end Go.Proofs.YtdokeddjcpnmiaaGreatDoor
