/- rhytonref04's Number. -/
import Derived.Test.YtibifcchmccknaaDoorRTWhole2
import Derived.Test.YtibifcchmccknaaDoorRTRound
import Derived.Test.YtibifcchmccknaaDoorText6
namespace Go.Proofs.YtibifcchmccknaaDoor
open Go.RowKit

def StripM (m : Nat) (e : Int) (m' : Nat) (e' : Int) : Prop := ∃ j : Nat, m = m' * 2 ^ j ∧ e' = e + j ∧ m' % 2 = 1
def StripP (p : PartV) (M' : Nat) (E' : Int) : Prop := ∃ j : Nat, p.m = ((M' * 2 ^ j : Nat) : Int) ∧ E' = p.e + j ∧ (p.kind = 2 → M' = 0 ∨ M' % 2 = 1)
/-- the document's answer at a number that may be one -/
def DocNear (neg : Bool) (m : Nat) (e v : Int) (b : Bool) : Prop :=
  ∃ f m' e' M' E', RoundIs neg m e f ∧ StripM m e m' e' ∧ StripP (partF (bitsOf f)) M' E' ∧
    (b = true ∧ v = f ∧ (partF (bitsOf f)).kind = 2 ∧ M' = m' ∧ E' = e' ∨ b = false ∧ v = 0 ∧ ¬ ((partF (bitsOf f)).kind = 2 ∧ M' = m' ∧ E' = e'))
/-- the document's answer at the parts of a text -/
def DocNum (sg : Bool) (r1 : List UInt8) (v : Int) (b : Bool) : Prop :=
  ((112 : UInt8) ∉ r1 ∧ v = 0 ∧ b = false) ∨
  ∃ h t, r1 = h ++ 112 :: t ∧ (112 : UInt8) ∉ h ∧
    ((¬ (wholeB h 16 = true ∧ wholeB (Lib.trimPrefix t [45]) 4 = true ∧ (accN 0 h).1 ≤ 9007199254740992) ∧ v = 0 ∧ b = false) ∨
     (wholeB h 16 = true ∧ wholeB (Lib.trimPrefix t [45]) 4 = true ∧ (accN 0 h).1 ≤ 9007199254740992 ∧
       ((accN 0 h).1 = 0 ∧ v = cellOf (Ieee.double.word sg 0) ∧ b = true ∨
        0 < (accN 0 h).1 ∧ DocNear sg (accN 0 h).1 (if Lib.hasPrefix t [45] then -(((accN 0 (Lib.trimPrefix t [45])).1 : Nat) : Int) else (((accN 0 (Lib.trimPrefix t [45])).1 : Nat) : Int)) v b)))

theorem prefix_of (s : ByteArray) : (Lib.hasPrefix s.data.toList [45] = true ∧ 1 ≤ s.size ∧ Lib.trimPrefix s.data.toList [45] = (s.extract 1 s.size).data.toList ∨ Lib.hasPrefix s.data.toList [45] = false ∧ Lib.trimPrefix s.data.toList [45] = s.data.toList) := by
  have hlen : s.data.toList.length = s.size := by rw [Array.length_toList]; rfl
  cases h : s.data.toList with
  | nil => exact .inr (prefix_no [] 45 (by simp)).symm
  | cons c r =>
    rw [h] at hlen
    by_cases hc : c = 45
    · subst hc
      refine .inl ⟨(prefix_yes r 45).2, by simp at hlen; omega, ?_⟩
      rw [(prefix_yes r 45).1, ext_list, h, ← hlen, List.take_length]
      rfl
    · exact .inr (prefix_no (c :: r) 45 (by simpa using hc)).symm

/-- the first byte, and whether it is a sign -/
theorem head_sign (s : ByteArray) (h0 : 0 < s.size) (c : UInt8) (hc : s[0] = c) : ((c.toNat : Int) == 45) = Lib.hasPrefix s.data.toList [45] := by
  have hh : s.data.toList.head? = some c := by
    rw [List.head?_eq_getElem?, ← hc, Array.getElem?_toList]
    exact Array.getElem?_eq_getElem h0
  cases h : s.data.toList with
  | nil => rw [h] at hh; simp at hh
  | cons a r =>
    rw [h] at hh
    obtain rfl : a = c := by simpa using hh
    by_cases hc : a = 45
    · subst hc
      rw [(prefix_yes r 45).2]
      rfl
    · rw [(prefix_no (a :: r) 45 (by simpa using hc)).2, beq_eq_false_iff_ne]
      intro e
      refine hc (UInt8.toNat_inj.1 ?_)
      show a.toNat = 45
      omega

theorem part_bounds (x : Nat) : 0 ≤ (partF x).m ∧ (partF x).m < 9007199254740992 ∧ -1074 ≤ (partF x).e ∧ (partF x).e ≤ 1000 := by
  unfold partF
  split
  · simp only; omega
  · split
    · simp only; omega
    · simp only; omega
theorem pow_small (a M j : Nat) (ha : 0 < a) (hM : M ≤ 9007199254740992) (h : M = a * 2 ^ j) : j ≤ 53 := by
  rcases Nat.lt_or_ge 53 j with h1 | h1
  · have h2 : (2 : Nat) ^ 54 ≤ 2 ^ j := Nat.pow_le_pow_right (by decide) h1
    have h3 : (2 : Nat) ^ 54 = 18014398509481984 := by decide
    have h4 : 2 ^ j ≤ a * 2 ^ j := Nat.le_mul_of_pos_left _ ha
    omega
  · exact h1
theorem halve (a A j : Nat) (h : A = a * 2 ^ j) (h2 : a % 2 = 0) : A = a / 2 * 2 ^ (j + 1) := by
  obtain ⟨b, rfl⟩ : ∃ b, a = 2 * b := ⟨a / 2, by omega⟩
  rw [h, Nat.mul_div_cancel_left _ (by decide), Nat.pow_succ, Nat.mul_comm (2 ^ j) 2, ← Nat.mul_assoc, Nat.mul_comm b 2]

set_option maxRecDepth 100000 in
set_option maxHeartbeats 3200000 in
theorem rNumber_any (s : ByteArray) (hs : s.size ≤ 200) (w : World) :
    Calls Tryd.prog 19 #[.string s] w fun e w' => ∃ v b, DocNum (Lib.hasPrefix s.data.toList [45]) (Lib.trimPrefix s.data.toList [45]) v b ∧ e = .returned (.tuple #[.int .i64 v, .bool b]) ∧ Touch [] w w' := by
  have hpo := prefix_of s
  have hhs := head_sign s
  obtain ⟨sg, hsg⟩ : ∃ sg, Lib.hasPrefix s.data.toList [45] = sg := ⟨_, rfl⟩
  obtain ⟨rb, hrb⟩ : ∃ rb : ByteArray, rb.data.toList = Lib.trimPrefix s.data.toList [45] := ⟨⟨(Lib.trimPrefix s.data.toList [45]).toArray⟩, str_of _⟩
  rw [← hrb]
  rw [hsg] at hpo hhs ⊢
  rw [← hrb] at hpo
  have hrs : rb.size ≤ s.size := by
    have e1 : rb.data.toList.length = rb.size := by rw [Array.length_toList]; rfl
    have e2 : s.data.toList.length = s.size := by rw [Array.length_toList]; rfl
    rw [← e1, ← e2, hrb]
    exact trim_len _ _
  have HPO := Lib.hid hpo
  clear hpo hsg hrb
  go_enter Tryd.func19, Tryd.ntmps19
  go_upto_region 1 with (fail)
  go_cut [4] from 14 (fun s4 wx => s4 = .bool sg ∧ w = wx)
  case first =>
    by_cases h0 : 0 < s.size
    · obtain ⟨c, hc⟩ : ∃ c, s[0] = c := ⟨_, rfl⟩
      have hix : ∀ W, (Instr.index 9 (.string s) (.int .i64 0)).run Tryd.prog W = .ok (.int .u8 (c.toNat : Int)) W := fun W => by
        rw [run_index_string W _ s _ _ (by kernel_rfl)]
        simp [h0, hc]
      have hq := hhs h0 c hc
      have h1 : (0 : Int) < (s.size : Int) := by omega
      obtain ⟨ci, hci⟩ : ∃ ci : Int, (c.toNat : Int) = ci := ⟨_, rfl⟩
      rw [hci] at hix hq
      clear hhs hc hci
      go_wp2_with fail
      go_meet
      exact ⟨rfl, rfl⟩
    · have h1 : ¬ (0 : Int) < (s.size : Int) := by omega
      have hf : sg = false := by
        rcases HPO.out with ⟨_, h, _⟩ | ⟨h, _⟩
        · omega
        · exact h
      subst hf
      clear hhs
      go_wp2_with fail
      go_meet
      exact ⟨rfl, rfl⟩
  case rest =>
    obtain ⟨rfl, rfl⟩ := hcut
    clear hhs
    go_upto_if 22 with (fail)
    go_cut [0] from 23 (fun s0 wx => s0 = .string rb ∧ w = wx)
    case first =>
      rcases HPO.out with ⟨rfl, h1, h2⟩ | ⟨rfl, h2⟩
      · go_wp2_with fail
        go_meet
        refine ⟨?_, rfl⟩
        rw [str_ext h2]
      · go_wp2_with fail
        go_meet
        refine ⟨?_, rfl⟩
        rw [str_ext h2]
    case rest =>
      obtain ⟨rfl, rfl⟩ := hcut
      clear HPO
      have hlen : rb.data.toList.length = rb.size := by rw [Array.length_toList]; rfl
      have HLN := Lib.hid hlen
      clear hlen
      go_wp2_with fail
      go_loopw [5] (fun i wr => ∃ k : Nat, k ≤ rb.size ∧ i = .int .i64 k ∧ Hid ((112 : UInt8) ∉ rb.data.toList.take k) ∧ w = wr) (fun i _ => 201 - (intOf i).toNat)
      case atStart => exact ⟨0, by omega, rfl, (by simp : (112 : UInt8) ∉ rb.data.toList.take 0), rfl⟩
      case round =>
        obtain ⟨k, hk, rfl, HN, rfl⟩ := hrel
        by_cases hlt : k < rb.size
        · obtain ⟨c, hc⟩ : ∃ c, rb[k] = c := ⟨_, rfl⟩
          have hix : ∀ W, (Instr.index 9 (.string rb) (.int .i64 (k : Int))).run Tryd.prog W = .ok (.int .u8 (c.toNat : Int)) W := fun W => by
            rw [run_index_string W _ rb _ _ (by kernel_rfl)]
            simp [hlt, hc]
          have hdrop : rb.data.toList.drop k = c :: rb.data.toList.drop (k + 1) := by
            rw [← List.getElem_cons_drop (by rw [HLN.out]; exact hlt)]
            congr 1
          have hsplit : rb.data.toList = rb.data.toList.take k ++ c :: rb.data.toList.drop (k + 1) := by rw [← hdrop, List.take_append_drop]
          have htake : rb.data.toList.take (k + 1) = rb.data.toList.take k ++ [c] := by
            rw [List.take_add_one, str_get rb k hlt, hc]
            rfl
          have hkI : (k : Int) < (rb.size : Int) := by omega
          by_cases hp : c = 112
          · subst hp
            have hp2 : ((((112 : UInt8).toNat : Nat) : Int) != 112) = false := rfl
            have hke : ((k : Int) == (rb.size : Int)) = false := by rw [beq_eq_false_iff_ne]; omega
            have HS := Lib.hid hsplit
            clear hsplit htake hdrop hc
            obtain ⟨hb, hhb⟩ : ∃ hb : ByteArray, rb.extract 0 k = hb := ⟨_, rfl⟩
            obtain ⟨T, hT⟩ : ∃ T : ByteArray, rb.extract (k + 1) rb.size = T := ⟨_, rfl⟩
            have hbl : hb.data.toList = rb.data.toList.take k := by rw [← hhb, ext_list, List.drop_zero]
            have hTl : T.data.toList = rb.data.toList.drop (k + 1) := by rw [← hT, ext_list, ← HLN.out, List.take_length]
            have hbs : hb.size ≤ 1000 := by
              have e1 : hb.data.toList.length = hb.size := by rw [Array.length_toList]; rfl
              rw [← e1, hbl, List.length_take]
              omega
            have hTs : T.size ≤ 1000 := by
              have e1 : T.data.toList.length = T.size := by rw [Array.length_toList]; rfl
              rw [← e1, hTl, List.length_drop, HLN.out]
              omega
            have hwh := fun W => wholeR_any hb hbs 16 W
            obtain ⟨M, hM⟩ : ∃ M, (accN 0 hb.data.toList).1 = M := ⟨_, rfl⟩
            obtain ⟨ok, hok⟩ : ∃ ok, wholeB hb.data.toList 16 = ok := ⟨_, rfl⟩
            rw [hM, hok] at hwh
            have hpo := prefix_of T
            have hhs := head_sign T
            obtain ⟨un, hun⟩ : ∃ un, Lib.hasPrefix T.data.toList [45] = un := ⟨_, rfl⟩
            obtain ⟨U, hU⟩ : ∃ U : ByteArray, U.data.toList = Lib.trimPrefix T.data.toList [45] := ⟨⟨(Lib.trimPrefix T.data.toList [45]).toArray⟩, str_of _⟩
            rw [hun] at hpo hhs
            rw [← hU] at hpo
            have hUs : U.size ≤ 1000 := by
              have e1 : U.data.toList.length = U.size := by rw [Array.length_toList]; rfl
              have e2 : T.data.toList.length = T.size := by rw [Array.length_toList]; rfl
              have e3 := trim_len T.data.toList [45]
              rw [← hU, e1, e2] at e3
              omega
            have hwt := fun W => wholeR_any U hUs 4 W
            obtain ⟨K, hK⟩ : ∃ K, (accN 0 U.data.toList).1 = K := ⟨_, rfl⟩
            obtain ⟨is, his⟩ : ∃ is, wholeB U.data.toList 4 = is := ⟨_, rfl⟩
            rw [hK, his] at hwt
            have HM := Lib.hid hM
            have HK := Lib.hid hK
            have HOK := Lib.hid hok
            have HIS := Lib.hid his
            have HUN := Lib.hid hun
            have HU := Lib.hid hU
            have HPO := Lib.hid hpo
            have HBL := Lib.hid hbl
            have HTL := Lib.hid hTl
            clear hM hK hok his hun hU hpo hbl hTl
            go_wp2_with fail
            refine (hwh _).mono ?_
            rintro _ w1 ⟨rfl, t1⟩
            clear hwh hix
            go_upto_region 11 with (fail)
            go_cut [9] from 52 (fun s9 wx => s9 = .bool un ∧ w1 = wx)
            case first =>
              by_cases h0 : 0 < T.size
              · obtain ⟨c, hc⟩ : ∃ c, T[0] = c := ⟨_, rfl⟩
                have hix : ∀ W, (Instr.index 9 (.string T) (.int .i64 0)).run Tryd.prog W = .ok (.int .u8 (c.toNat : Int)) W := fun W => by
                  rw [run_index_string W _ T _ _ (by kernel_rfl)]
                  simp [h0, hc]
                have hq := hhs h0 c hc
                have h1 : (0 : Int) < (T.size : Int) := by omega
                obtain ⟨ci, hci⟩ : ∃ ci : Int, (c.toNat : Int) = ci := ⟨_, rfl⟩
                rw [hci] at hix hq
                clear hhs hc hci
                go_wp2_with fail
                go_meet
                exact ⟨rfl, rfl⟩
              · have h1 : ¬ (0 : Int) < (T.size : Int) := by omega
                have hf : un = false := by
                  rcases HPO.out with ⟨_, h, _⟩ | ⟨h, _⟩
                  · omega
                  · exact h
                subst hf
                clear hhs
                go_wp2_with fail
                go_meet
                exact ⟨rfl, rfl⟩
            case rest =>
              obtain ⟨rfl, rfl⟩ := hcut
              clear hhs
              go_upto_if 60 with (fail)
              go_cut [8] from 61 (fun s8 wx => s8 = .string U ∧ w1 = wx)
              case first =>
                rcases HPO.out with ⟨rfl, h1, h2⟩ | ⟨rfl, h2⟩
                · go_wp2_with fail
                  go_meet
                  refine ⟨?_, rfl⟩
                  rw [str_ext h2]
                · go_wp2_with fail
                  go_meet
                  refine ⟨?_, rfl⟩
                  rw [str_ext h2]
              case rest =>
                obtain ⟨rfl, rfl⟩ := hcut
                clear HPO
                go_wp2_with fail
                refine (hwt _).mono ?_
                rintro _ w2 ⟨rfl, t2⟩
                have tw := t1.trans t2 (by simp)
                clear t1 t2 hwt
                obtain ⟨E, hE0⟩ : ∃ E : Int, (if un then wrap64 (0 - pl K) else pl K) = E := ⟨_, rfl⟩
                have hE : (un = false → pl K = E) ∧ (un = true → wrap64 (0 - pl K) = E) := ⟨fun h => by rw [h] at hE0; simpa using hE0, fun h => by rw [h, if_pos rfl] at hE0; exact hE0⟩
                have HE := Lib.hid hE
                clear hE0 hE
                go_upto_if 68 with (fail)
                go_cut [10] from 69 (fun s10 wx => s10 = .int .i64 E ∧ w2 = wx)
                case first =>
                  rcases un with _ | _
                  · have HV := Lib.hid (HE.out.1 rfl)
                    go_wp2_with fail
                    go_meet
                    exact ⟨vint HV.out, rfl⟩
                  · have HV := Lib.hid (HE.out.2 rfl)
                    go_wp2_with fail
                    go_meet
                    exact ⟨vint ((congrArg wrap64 (Int.zero_sub _).symm).trans HV.out), rfl⟩
                case rest =>
                  obtain ⟨rfl, rfl⟩ := hcut
                  have hwm := pl_bits M
                  obtain ⟨mu, hmu⟩ : ∃ mu : Int, ((M % 18446744073709551616 : Nat) : Int) = mu := ⟨_, rfl⟩
                  rw [hmu] at hwm
                  have HMU := Lib.hid hmu
                  clear hmu
                  obtain ⟨q, hq⟩ : ∃ q, decide (mu ≤ 9007199254740992) = q := ⟨_, rfl⟩
                  have HQ := Lib.hid hq
                  clear hq
                  go_upto_region 17 with (fail)
                  go_cut [81] from 71 (fun s81 wx => s81 = .bool (!(ok && (is && q))) ∧ w2 = wx)
                  case first =>
                    rcases q with _ | _
                    · have hq2 : 9007199254740992 < mu := by have := of_decide_eq_false HQ.out; omega
                      rcases ok with _ | _ <;> rcases is with _ | _
                      all_goals
                        go_wp2_with fail
                        go_meet
                        exact ⟨rfl, rfl⟩
                    · have hq2 : ¬ 9007199254740992 < mu := by have := of_decide_eq_true HQ.out; omega
                      rcases ok with _ | _ <;> rcases is with _ | _
                      all_goals
                        go_wp2_with fail
                        go_meet
                        exact ⟨rfl, rfl⟩
                  case rest =>
                    obtain ⟨rfl, rfl⟩ := hcut
                    clear hwm
                    by_cases hall : ok = true ∧ is = true ∧ q = true
                    · obtain ⟨rfl, rfl, rfl⟩ := hall
                      have hM17 : M < 100000000000000000 := by rw [← HM.out]; exact acc_lt _ 16 (by omega) HOK.out
                      have hMu : mu = (M : Int) := by rw [← HMU.out, Nat.mod_eq_of_lt (by omega)]
                      have hM53 : M ≤ 9007199254740992 := by
                        have := of_decide_eq_true HQ.out
                        omega
                      have hK4 : K < 10000 := by
                        have h1 := atoi_lt _ _ (atoi_whole _ 4 (by omega) HIS.out)
                        have h2 : (10 : Nat) ^ U.data.toList.length ≤ 10 ^ 4 := Nat.pow_le_pow_right (by decide) (of_decide_eq_true HIS.out).2.1
                        have h3 : (10 : Nat) ^ 4 = 10000 := by decide
                        rw [Int.natAbs_natCast, HK.out] at h1
                        omega
                      have hplK : pl K = (K : Int) := by
                        rw [(p_small K (by omega)).1]
                        unfold cellOf
                        rw [if_pos (by omega)]
                      have hplM : pl M = (M : Int) ∧ ph M = 0 := by
                        refine ⟨?_, (p_small M (by omega)).2⟩
                        rw [(p_small M (by omega)).1]
                        unfold cellOf
                        rw [if_pos (by omega)]
                      have hEv : E = if un then -(K : Int) else (K : Int) := by
                        rcases un with _ | _
                        · rw [← HE.out.1 rfl, hplK]
                          rfl
                        · rw [← HE.out.2 rfl, hplK]
                          show wrap64 _ = -(K : Int)
                          unfold wrap64
                          omega
                      have hE0 : -10000 ≤ E := by rw [hEv]; split <;> omega
                      have hE1 : E ≤ 10000 := by rw [hEv]; split <;> omega
                      have HEV := Lib.hid hEv
                      have HPM := Lib.hid hplM
                      obtain ⟨Mi, hMi⟩ : ∃ Mi : Int, (M : Int) = Mi := ⟨_, rfl⟩
                      have hMi0 : 0 ≤ Mi := by omega
                      have hMi1 : Mi ≤ 9007199254740992 := by omega
                      have HMi := Lib.hid hMi
                      rw [hplM.1, hMi]
                      clear hEv hplM hplK hMi hMu hK4
                      by_cases hz : M = 0
                      · have hz2 : (Mi == 0) = true := by rw [beq_iff_eq, ← HMi.out, hz]; rfl
                        have hsg0 := fun W => signedR_any sg 0 (by omega) W
                        have hsg : ∀ W, Calls Tryd.prog 35 #[.bool sg, .int .u64 0] W fun e w' => e = .returned (.int .i64 (cellOf (Ieee.double.word sg 0))) ∧ W = w' := hsg0
                        have HZ := Lib.hid hz
                        clear hz hsg0
                        go_wp2_with fail
                        refine (hsg _).mono ?_
                        rintro _ _ ⟨rfl, rfl⟩
                        go_wp2_with fail
                        go_ret2
                        refine ⟨_, true, .inr ⟨rb.data.toList.take k, rb.data.toList.drop (k + 1), HS.out, HN.out, .inr ⟨?_, ?_, ?_, .inl ⟨?_, rfl, rfl⟩⟩⟩, rfl, tw⟩
                        · rw [← HBL.out]; exact HOK.out
                        · rw [← HTL.out, ← HU.out]; exact HIS.out
                        · rw [← HBL.out, HM.out]; exact hM53
                        · rw [← HBL.out, HM.out]; exact HZ.out
                      · have hz2 : (Mi == 0) = false := by rw [beq_eq_false_iff_ne, ← HMi.out]; omega
                        have hMp : 0 < M := by omega
                        have hround := fun W => rounded_any sg M hMp (by omega) E (by omega) (by omega) W
                        unfold two at hround
                        rw [HPM.out.1, HPM.out.2, HMi.out] at hround
                        have hMip : 0 < Mi := by rw [← HMi.out]; omega
                        have hfin : ∀ v b, DocNear sg M E v b → DocNum sg rb.data.toList v b := fun v b h => by
                          refine .inr ⟨rb.data.toList.take k, rb.data.toList.drop (k + 1), HS.out, HN.out, .inr ⟨?_, ?_, ?_, .inr ⟨?_, ?_⟩⟩⟩
                          · rw [← HBL.out]; exact HOK.out
                          · rw [← HTL.out, ← HU.out]; exact HIS.out
                          · rw [← HBL.out, HM.out]; exact hM53
                          · rw [← HBL.out, HM.out]; exact hMp
                          · rw [← HBL.out, HM.out, ← HTL.out, HUN.out, ← HU.out, HK.out, ← HEV.out]; exact h
                        have HFIN := Lib.hid hfin
                        clear hfin
                        clear hz
                        go_wp2_with fail
                        refine (hround _).mono ?_
                        rintro _ w3 ⟨f, hf, rfl, t3⟩
                        have tw := tw.trans t3 (by simp)
                        have hop := fun W => open_any f hf.1 hf.2.1 W
                        obtain ⟨q0, q1, q2, q3⟩ := part_bounds (bitsOf f)
                        have HF := Lib.hid hf
                        obtain ⟨P, hP⟩ : ∃ P, partF (bitsOf f) = P := ⟨_, rfl⟩
                        rw [hP] at hop q0 q1 q2 q3
                        have HP := Lib.hid hP
                        clear hf t3 hround hP
                        obtain ⟨kd, ng, pm, pe⟩ := P
                        simp only [PartV.cells] at hop q0 q1 q2 q3
                        go_wp2_with fail
                        refine (hop _).mono ?_
                        rintro _ w4 ⟨rfl, t4⟩
                        have tw := tw.trans t4 (by simp)
                        clear t4 hop
                        go_upto_region 23 with (fail)
                        have hgl := tw.size
                        have bG := Blk.new w4 59 #[.int .i64 kd, .bool ng, .int .u64 pm, .int .i64 pe]
                        have tw := tw.alloc (.cells #[.int .i64 kd, .bool ng, .int .u64 pm, .int .i64 pe] 59)
                        obtain ⟨g, hg⟩ : ∃ g, w4.heap.size = g := ⟨_, rfl⟩
                        rw [hg] at bG hgl ⊢
                        generalize w4.alloc (.cells #[.int .i64 kd, .bool ng, .int .u64 pm, .int .i64 pe] 59) = w5 at *
                        clear hg
                        go_wp2_with fail
                        go_loopw [6, 10] (fun vm ve wr => ∃ (a e1 : Int), vm = .int .i64 a ∧ ve = .int .i64 e1 ∧ 0 < a ∧ a ≤ 9007199254740992 ∧ -10000 ≤ e1 ∧ e1 ≤ 10100 ∧ Hid (∃ j : Nat, M = a.toNat * 2 ^ j ∧ e1 = E + j) ∧ w5 = wr) (fun vm _ _ => (intOf vm).toNat)
                        case atStart => exact ⟨Mi, E, rfl, rfl, hMip, hMi1, hE0, by omega, ⟨0, by rw [← HMi.out]; simp, by simp⟩, rfl⟩
                        case round =>
                          obtain ⟨a, e1, rfl, rfl, ha0, ha1, g0, g1, HA, rfl⟩ := hrel
                          by_cases hev : a % 2 = 0
                          · have hev2 : (a % 2 == 0) = true := by rw [beq_iff_eq]; exact hev
                            obtain ⟨a2, ha2⟩ : ∃ a2, a / 2 = a2 := ⟨_, rfl⟩
                            have hA2 : ∃ j : Nat, M = a2.toNat * 2 ^ j ∧ e1 + 1 = E + j := by
                              obtain ⟨j, h1, h2⟩ := HA.out
                              refine ⟨j + 1, ?_, by omega⟩
                              rw [show a2.toNat = a.toNat / 2 by omega]
                              exact halve _ _ _ h1 (by omega)
                            have he2 : e1 + 1 ≤ 10100 := by
                              obtain ⟨j, h1, h2⟩ := hA2
                              have := pow_small _ _ _ (by omega) hM53 h1
                              omega
                            have HA2 := Lib.hid hA2
                            clear hA2
                            go_wp2_with fail
                            refine ⟨⟨a2, e1 + 1, vint ha2, rfl, by omega, by omega, by omega, he2, HA2, trivial⟩, ?_⟩
                            show (a / 2).toNat < a.toNat
                            omega
                          · have hev2 : (a % 2 == 0) = false := by rw [beq_eq_false_iff_ne]; exact hev
                            have hsm : StripM M E a.toNat e1 := by
                              obtain ⟨j, h1, h2⟩ := HA.out
                              exact ⟨j, h1, h2, by omega⟩
                            have HSM := Lib.hid hsm
                            clear hsm HA hev
                            have hwa : IntKind.u64.wrap a = a := by rw [IntKind.wrap_u64]; omega
                            go_wp2_with fail
                            go_loopw [] (fun wr => ∃ (p x : Int), 0 ≤ p ∧ p < 9007199254740992 ∧ -1074 ≤ x ∧ x ≤ 1100 ∧ Hid (∃ j : Nat, pm.toNat = p.toNat * 2 ^ j ∧ x = pe + j) ∧ Blk wr g 59 #[.int .i64 kd, .bool ng, .int .u64 p, .int .i64 x] ∧ Touch [] w wr) (fun wr => match wr.cell? ⟨g, 2, none⟩ with | some v => (intOf v).toNat | none => 0)
                            case atStart => exact ⟨pm, pe, q0, q1, q2, by omega, ⟨0, by simp, by simp⟩, bG, tw⟩
                            case round =>
                              obtain ⟨p, x, p0, p1, x0, x1, HX, bG, tw⟩ := hrel
                              have c0 := bG.cell 0
                              have c2 := bG.cell 2
                              have c3 := bG.cell 3
                              have f2 := bG.frozen 2
                              have f3 := bG.frozen 3
                              by_cases hgo : kd = 2 ∧ p ≠ 0 ∧ p % 2 = 0
                              · have t0 : (kd == 2) = true := by rw [beq_iff_eq]; exact hgo.1
                                have t1 : (p != 0) = true := by rw [bne_iff_ne]; exact hgo.2.1
                                have t2 : (p % 2 == 0) = true := by rw [beq_iff_eq]; exact hgo.2.2
                                obtain ⟨p2, hp2⟩ : ∃ p2, p / 2 = p2 := ⟨_, rfl⟩
                                have hX2 : ∃ j : Nat, pm.toNat = p2.toNat * 2 ^ j ∧ x + 1 = pe + j := by
                                  obtain ⟨j, h1, h2⟩ := HX.out
                                  refine ⟨j + 1, ?_, by omega⟩
                                  rw [show p2.toNat = p.toNat / 2 by omega]
                                  exact halve _ _ _ h1 (by omega)
                                have hx2 : x + 1 ≤ 1100 := by
                                  obtain ⟨j, h1, h2⟩ := hX2
                                  have := pow_small _ _ _ (by omega) (by omega) h1
                                  omega
                                have HX2 := Lib.hid hX2
                                have hlt : p2.toNat < p.toNat := by omega
                                have hp20 : 0 ≤ p2 := by omega
                                have hp21 : p2 < 9007199254740992 := by omega
                                clear hX2 hgo
                                go_wp2_with fail
                                have bN := (bG.set_ 2 (.int .u64 p2)).set_ 3 (.int .i64 (x + 1))
                                refine ⟨⟨p2, x + 1, hp20, hp21, by omega, hx2, HX2, bN, (tw.setCell (.inr hgl) _).setCell (.inr hgl) _⟩, ?_⟩
                                have d2 := bN.cell 2
                                simp only [c2, d2]
                                exact hlt
                              · have hsp : StripP ⟨kd, ng, pm, pe⟩ p.toNat x := by
                                  obtain ⟨j, h1, h2⟩ := HX.out
                                  refine ⟨j, ?_, h2, fun h => ?_⟩
                                  · rw [← h1]
                                    show pm = _
                                    omega
                                  · have h3 : kd = 2 := h
                                    by_cases h4 : p = 0
                                    · exact .inl (by omega)
                                    · exact .inr (by
                                        have : ¬ p % 2 = 0 := fun h5 => hgo ⟨h3, h4, h5⟩
                                        omega)
                                have hexit : (kd == 2) = false ∨ (kd == 2) = true ∧ (p != 0) = false ∨ (kd == 2) = true ∧ (p != 0) = true ∧ (p % 2 == 0) = false := by
                                  rcases h1 : (kd == 2) with _ | _
                                  · exact .inl rfl
                                  · rcases h2 : (p != 0) with _ | _
                                    · exact .inr (.inl ⟨rfl, rfl⟩)
                                    · refine .inr (.inr ⟨rfl, rfl, ?_⟩)
                                      rw [beq_eq_false_iff_ne]
                                      intro h3
                                      exact hgo ⟨by simpa using h1, by simpa using h2, h3⟩
                                have HSP := Lib.hid hsp
                                clear hsp hgo HX
                                have hnear : ∀ v b, (b = true ∧ v = f ∧ kd = 2 ∧ p.toNat = a.toNat ∧ x = e1 ∨ b = false ∧ v = 0 ∧ ¬ (kd = 2 ∧ p.toNat = a.toNat ∧ x = e1)) → DocNum sg rb.data.toList v b := fun v b h => by
                                  refine HFIN.out v b ⟨f, a.toNat, e1, p.toNat, x, HF.out, HSM.out, ?_, ?_⟩
                                  · rw [HP.out]; exact HSP.out
                                  · rw [HP.out]; exact h
                                have HNEAR := Lib.hid hnear
                                clear hnear HSP HSM
                                by_cases hkd : kd = 2
                                · by_cases hpa : p = a
                                  · by_cases hxe : x = e1
                                    · have HD := Lib.hid (HNEAR.out f true (.inl ⟨rfl, rfl, hkd, by omega, hxe⟩))
                                      have n0 : (kd != 2) = false := by simpa using hkd
                                      have n1 : (p != a) = false := by simpa using hpa
                                      have n2 : (x != e1) = false := by simpa using hxe
                                      clear hkd hpa hxe HNEAR
                                      rcases hexit with h1 | ⟨h1, h2⟩ | ⟨h1, h2, h3⟩
                                      all_goals
                                        go_wp2_with fail
                                        go_ret2
                                        exact ⟨f, true, HD, rfl, tw⟩
                                    · have HD := Lib.hid (HNEAR.out 0 false (.inr ⟨rfl, rfl, fun h => hxe h.2.2⟩))
                                      have n0 : (kd != 2) = false := by simpa using hkd
                                      have n1 : (p != a) = false := by simpa using hpa
                                      have n2 : (x != e1) = true := by simpa using hxe
                                      clear hkd hpa hxe HNEAR
                                      rcases hexit with h1 | ⟨h1, h2⟩ | ⟨h1, h2, h3⟩
                                      all_goals
                                        go_wp2_with fail
                                        go_ret2
                                        exact ⟨0, false, HD, rfl, tw⟩
                                  · have HD := Lib.hid (HNEAR.out 0 false (.inr ⟨rfl, rfl, fun h => hpa (by omega)⟩))
                                    have n0 : (kd != 2) = false := by simpa using hkd
                                    have n1 : (p != a) = true := by simpa using hpa
                                    clear hkd hpa HNEAR
                                    rcases hexit with h1 | ⟨h1, h2⟩ | ⟨h1, h2, h3⟩
                                    all_goals
                                      go_wp2_with fail
                                      go_ret2
                                      exact ⟨0, false, HD, rfl, tw⟩
                                · have HD := Lib.hid (HNEAR.out 0 false (.inr ⟨rfl, rfl, fun h => hkd h.1⟩))
                                  have n0 : (kd != 2) = true := by simpa using hkd
                                  have h1 : (kd == 2) = false := by simpa using hkd
                                  clear hkd HNEAR hexit
                                  go_wp2_with fail
                                  go_ret2
                                  exact ⟨0, false, HD, rfl, tw⟩
                    · have hf : (!(ok && (is && q))) = true := by
                        rcases ok with _ | _ <;> rcases is with _ | _ <;> rcases q with _ | _ <;> first | rfl | exact absurd ⟨rfl, rfl, rfl⟩ hall
                      rw [hf]
                      have hD : DocNum sg rb.data.toList 0 false := by
                        refine .inr ⟨rb.data.toList.take k, rb.data.toList.drop (k + 1), HS.out, HN.out, .inl ⟨?_, rfl, rfl⟩⟩
                        rw [← HBL.out, ← HTL.out, ← HU.out, HOK.out, HIS.out, HM.out]
                        rintro ⟨h1, h2, h3⟩
                        refine hall ⟨h1, h2, ?_⟩
                        rw [← HQ.out, ← HMU.out]
                        exact decide_eq_true (by omega)
                      have HD := Lib.hid hD
                      clear hD hall hf
                      go_wp2_with fail
                      go_ret2
                      exact ⟨0, false, HD, rfl, tw⟩
          · have hp2 : ((c.toNat : Int) != 112) = true := by
              rw [bne_iff_ne]
              intro e
              refine hp (UInt8.toNat_inj.1 ?_)
              show c.toNat = 112
              omega
            have hN2 : (112 : UInt8) ∉ rb.data.toList.take (k + 1) := by
              rw [htake, List.mem_append]
              rintro (h | h)
              · exact HN.out h
              · exact hp (show (112 : UInt8) = c by simpa using h).symm
            have HN2 := Lib.hid hN2
            clear hsplit htake hdrop hc hN2 hp
            obtain ⟨ci, hci⟩ : ∃ ci : Int, (c.toNat : Int) = ci := ⟨_, rfl⟩
            rw [hci] at hix hp2
            clear hci
            go_wp2_with fail
            refine ⟨⟨k + 1, by omega, rfl, HN2, trivial⟩, ?_⟩
            show 201 - ((k : Int) + 1).toNat < 201 - (k : Int).toNat
            omega
        · obtain rfl : k = rb.size := by omega
          have hD : DocNum sg rb.data.toList 0 false := by
            refine .inl ⟨?_, rfl, rfl⟩
            have := HN.out
            rwa [← HLN.out, List.take_length] at this
          have HD := Lib.hid hD
          clear hD
          go_wp2_with fail
          go_ret2
          exact ⟨0, false, HD, rfl, Touch.refl _ _⟩
end Go.Proofs.YtibifcchmccknaaDoor
