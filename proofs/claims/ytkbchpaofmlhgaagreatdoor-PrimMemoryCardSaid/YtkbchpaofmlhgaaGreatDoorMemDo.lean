/- PrimMemory: what its operations make of a state, one behind the other; the closure that runs them. -/
import Derived.Test.YtkbchpaofmlhgaaGreatDoorPKeep
import Derived.Test.YtkbchpaofmlhgaaGreatDoorMemOps
import Derived.Test.YtkbchpaofmlhgaaGreatDoorMemOps2
namespace Go.Proofs.YtkbchpaofmlhgaaGreatDoor
open Go.RowKit

/-- an operation that goes right, in any world -/
def Does (s : Nat) (op : Int) (S T : PS) : Prop := ∀ (w : World) (F : List Nat), StateAt w s F S → Calls Tryz.prog 14 #[.pointer (some ⟨s, 0, none⟩), .int .i64 op] w fun e w' => e = .returned (.int .i64 0) ∧ ∃ F', StateAt w' s F' T ∧ Touch F w w' ∧ Sub w F F'
def Chain (s : Nat) : List Int → PS → PS → Prop
  | [], S, T => S = T
  | op :: r, S, T => ∃ U, Does s op S U ∧ Chain s r U T
section
variable {s : Nat} {S : PS}
theorem does_put (hok : S.ok) (rest : List Int) (x : Int) (p : Nat) (hst : S.st = rest ++ [x, (p : Int)]) (hp : p + 8 ≤ S.n) (h8 : p % 8 = 0) (hl : rest.length ≤ 100) : Does s 74 S { S with st := rest, bs := putF S.bs p x 8 } := fun w F hS => by
  have h := st_doP (T := { S with st := rest, bs := putF S.bs p x 8 }) hS put_sem (by decide) (by decide) (by decide) (by decide) hok rest [x, (p : Int)] [] hst rfl (by rw [hst]; simp; omega) ⟨x, p, rfl, hp, h8⟩ rfl rfl (by simp; omega)
  rwa [List.append_nil] at h
theorem does_get (hok : S.ok) (rest : List Int) (p : Nat) (hst : S.st = rest ++ [(p : Int)]) (hp : p + 8 ≤ S.n) (h8 : p % 8 = 0) (hl : rest.length ≤ 100) : Does s 73 S { S with st := rest ++ [getF S.bs p] } := fun w F hS =>
  st_doP (T := { S with st := rest }) hS get_sem (by decide) (by decide) (by decide) (by decide) hok rest [(p : Int)] [getF S.bs p] hst rfl (by rw [hst]; simp; omega) ⟨p, rfl, hp, h8⟩ rfl rfl (by simp; omega)
theorem does_getC (hok : S.ok) (rest : List Int) (p : Nat) (hst : S.st = rest ++ [(p : Int)]) (hp : p < S.n) (hl : rest.length ≤ 100) : Does s 75 S { S with st := rest ++ [S.bs.getD p 0] } := fun w F hS =>
  st_doP (T := { S with st := rest }) hS getC_sem (by decide) (by decide) (by decide) (by decide) hok rest [(p : Int)] [S.bs.getD p 0] hst rfl (by rw [hst]; simp; omega) ⟨p, rfl, hp⟩ rfl rfl (by simp; omega)
theorem does_putC (hok : S.ok) (rest : List Int) (x : Int) (p : Nat) (hst : S.st = rest ++ [x, (p : Int)]) (hp : p < S.n) (hl : rest.length ≤ 100) : Does s 76 S { S with st := rest, bs := S.bs.set p (x % 256) } := fun w F hS => by
  have h := st_doP (T := { S with st := rest, bs := S.bs.set p (x % 256) }) hS putC_sem (by decide) (by decide) (by decide) (by decide) hok rest [x, (p : Int)] [] hst rfl (by rw [hst]; simp; omega) ⟨x, p, rfl, hp⟩ rfl rfl (by simp; omega)
  rwa [List.append_nil] at h
theorem does_addTo (hok : S.ok) (rest : List Int) (x : Int) (p : Nat) (hst : S.st = rest ++ [x, (p : Int)]) (hp : p + 8 ≤ S.n) (h8 : p % 8 = 0) (hl : rest.length ≤ 100) : Does s 77 S { S with st := rest, bs := putF S.bs p (IntKind.i64.wrap (getF S.bs p + x)) 8 } := fun w F hS => by
  have h := st_doP (T := { S with st := rest, bs := putF S.bs p (IntKind.i64.wrap (getF S.bs p + x)) 8 }) hS addTo_sem (by decide) (by decide) (by decide) (by decide) hok rest [x, (p : Int)] [] hst rfl (by rw [hst]; simp; omega) ⟨x, p, rfl, hp, h8⟩ rfl rfl (by simp; omega)
  rwa [List.append_nil] at h
theorem does_get2 (hok : S.ok) (rest : List Int) (p : Nat) (hst : S.st = rest ++ [(p : Int)]) (hp : p + 16 ≤ S.n) (h8 : p % 8 = 0) (hl : rest.length ≤ 100) : Does s 78 S { S with st := rest ++ [getF S.bs (p + 8), getF S.bs p] } := fun w F hS =>
  st_doP (T := { S with st := rest }) hS get2_sem (by decide) (by decide) (by decide) (by decide) hok rest [(p : Int)] [getF S.bs (p + 8), getF S.bs p] hst rfl (by rw [hst]; simp; omega) ⟨p, rfl, hp, h8⟩ rfl rfl (by simp; omega)
theorem does_put2 (hok : S.ok) (rest : List Int) (x y : Int) (p : Nat) (hst : S.st = rest ++ [x, y, (p : Int)]) (hp : p + 16 ≤ S.n) (h8 : p % 8 = 0) (hl : rest.length ≤ 100) : Does s 79 S { S with st := rest, bs := putF (putF S.bs (p + 8) x 8) p y 8 } := fun w F hS => by
  have h := st_doP (T := { S with st := rest, bs := putF (putF S.bs (p + 8) x 8) p y 8 }) hS put2_sem (by decide) (by decide) (by decide) (by decide) hok rest [x, y, (p : Int)] [] hst rfl (by rw [hst]; simp; omega) ⟨x, y, p, rfl, hp, h8⟩ rfl rfl (by simp; omega)
  rwa [List.append_nil] at h
theorem does_fill (hok : S.ok) (rest : List Int) (p k : Nat) (x : Int) (hst : S.st = rest ++ [(p : Int), (k : Int), x]) (hp : p + k ≤ S.n) (hl : rest.length ≤ 100) : Does s 80 S { S with st := rest, bs := filL S.bs p (x % 256) k } := fun w F hS => by
  have h := st_doP (T := { S with st := rest, bs := filL S.bs p (x % 256) k }) hS fill_sem (by decide) (by decide) (by decide) (by decide) hok rest [(p : Int), (k : Int), x] [] hst rfl (by rw [hst]; simp; omega) ⟨p, k, x, rfl, hp⟩ rfl rfl (by simp; omega)
  rwa [List.append_nil] at h
theorem does_here (hok : S.ok) (rest : List Int) (hst : S.st = rest) (hl : rest.length ≤ 100) : Does s 82 S { S with st := rest ++ [(S.here : Int)] } := fun w F hS =>
  st_doP (T := { S with st := rest }) hS here_sem (by decide) (by decide) (by decide) (by decide) hok rest [] [(S.here : Int)] (by rw [hst]; simp) rfl (by rw [hst]; omega) trivial rfl rfl (by simp; omega)
theorem does_comma (hok : S.ok) (rest : List Int) (x : Int) (hst : S.st = rest ++ [x]) (h8 : S.here % 8 = 0) (hp : S.here + 8 + 512 ≤ S.n) (hl : rest.length ≤ 100) : Does s 84 S { S with st := rest, bs := putF S.bs S.here x 8, here := S.here + 8 } := fun w F hS => by
  have h := st_doP (T := { S with st := rest, bs := putF S.bs S.here x 8, here := S.here + 8 }) hS comma_sem (by decide) (by decide) (by decide) (by decide) hok rest [x] [] hst rfl (by rw [hst]; simp; omega) ⟨h8, hp⟩ rfl rfl (by simp; omega)
  rwa [List.append_nil] at h
/-- up to the next place of a cell -/
def upF (x : Int) : Int := bits .andNot .i64 (wrap64 (wrap64 (x + 8) - 1)) 7
theorem does_aligned (hok : S.ok) (rest : List Int) (x : Int) (hst : S.st = rest ++ [x]) (hl : rest.length ≤ 100) : Does s 87 S { S with st := rest ++ [upF x] } := fun w F hS =>
  st_doP (T := { S with st := rest }) hS aligned_sem (by decide) (by decide) (by decide) (by decide) hok rest [x] [upF x] hst rfl (by rw [hst]; simp; omega) trivial rfl rfl (by simp; omega)
theorem does_count (hok : S.ok) (rest : List Int) (p : Nat) (hst : S.st = rest ++ [(p : Int)]) (hp : p < S.n) (hl : rest.length ≤ 100) : Does s 89 S { S with st := rest ++ [(p : Int) + 1, S.bs.getD p 0] } := fun w F hS =>
  st_doP (T := { S with st := rest }) hS count_sem (by decide) (by decide) (by decide) (by decide) hok rest [(p : Int)] [(p : Int) + 1, S.bs.getD p 0] hst rfl (by rw [hst]; simp; omega) ⟨p, rfl, hp⟩ rfl rfl (by simp; omega)
theorem does_dup (rest : List Int) (x : Int) (hst : S.st = rest ++ [x]) (hl : rest.length ≤ 100) : Does s 28 S { S with st := rest ++ [x, x] } := fun w F hS => st_dup hS hst (by omega)
end
theorem wrap_is6 (z : Int) : Cell6 (wrap64 z) := by unfold Cell6 wrap64; omega
theorem up_even (x : Int) : upF x % 8 = 0 ∧ Cell6 (upF x) := by
  unfold upF
  have h1 := wrap_is6 (wrap64 (x + 8) - 1)
  rw [down8 _ h1]
  unfold Cell6 at h1 ⊢
  omega
theorem up_up (x : Int) : upF (upF x) = upF x := by
  obtain ⟨h1, h2⟩ := up_even x
  generalize upF x = y at *
  unfold upF
  rw [down8 _ (wrap_is6 _)]
  unfold wrap64
  unfold Cell6 at h2
  omega
theorem up_near (x : Int) : 0 ≤ wrap64 (upF x - x) ∧ wrap64 (upF x - x) < 8 := by
  unfold upF
  rw [down8 _ (wrap_is6 _)]
  unfold wrap64
  omega
set_option maxHeartbeats 1000000 in
theorem run_any (w0 w : World) (s b g gl : Nat) (S T : PS) (ops L : List Int) (K : List Nat) (h : LiveK w0 w s S K) (hb : b ∈ K) (hB : Blk w b 24 #[.pointer (some ⟨s, 0, none⟩)]) (hg : g ∈ K) (hG : Blk w g 3 (cells ops).toArray)
    (hl : gl ∈ K) (hL : Blk w gl 36 (cells L).toArray) (hlen : L.length ≤ 128) (hops : ops.length ≤ 128) (ch : Chain s ops { S with st := L } T) (hT : T.st.length ≤ 128) :
    Calls Tryz.prog 22 #[.slice (some ⟨gl, 0, none⟩) L.length L.length, .slice (some ⟨g, 0, none⟩) ops.length ops.length, .pointer (some ⟨b, 0, none⟩)] w fun e w' => ∃ v, e = .returned v ∧ CellsG w' v T.st ∧ LiveK w0 w' s T K ∧ On K w w' := by
  obtain ⟨n, hn⟩ : ∃ n, ops.length = n := ⟨_, rfl⟩
  have hSt := live_stack h.live
  have b0 := hB.cell 0
  have hC := keep_cut h
  rw [hn] at hops ⊢
  have HH := Lib.hid (And.intro hb (And.intro hB (And.intro hg (And.intro hG (And.intro hl (And.intro hL (And.intro ch (And.intro hT hn))))))))
  clear hb hB hg hG hl hL ch hT hn h
  go_enter Tryz.func22, Tryz.ntmps22
  go_wp2_with fail
  refine hSt.mono ?_
  rintro _ _ ⟨rfl, rfl⟩
  clear hSt
  go_wp2_with fail
  refine hC.mono ?_
  rintro _ w1 ⟨rfl, h1, o1⟩
  clear hC b0
  have b0 := (o1.blk HH.out.1 HH.out.2.1).cell 0
  have hSt := live_stack h1.live
  have hP := keep_put h1 _ L (CellsAt.blk (o1.blk HH.out.2.2.2.2.1 HH.out.2.2.2.2.2.1) L.length) (by simpa using hlen)
  have H1 := Lib.hid o1
  clear o1 h1
  go_wp2_with fail
  refine hSt.mono ?_
  rintro _ _ ⟨rfl, rfl⟩
  clear hSt
  go_wp2_with fail
  refine hP.mono ?_
  rintro _ w2 ⟨rfl, h2, o2⟩
  clear hP b0
  have H2 := Lib.hid (And.intro h2 (H1.out.trans o2))
  clear h2 o2
  go_wp2_with fail
  go_loopw [17] (fun iv wr => ∃ (j : Nat) (U : PS), j ≤ n ∧ iv = .int .i64 j ∧ Chain s (ops.drop j) U T ∧ LiveK w0 wr s U K ∧ On K w wr) (fun iv _ => n - (intOf iv).toNat)
  case atStart => exact ⟨0, _, Nat.zero_le _, rfl, HH.out.2.2.2.2.2.2.1, H2.out.1, H2.out.2⟩
  case round =>
    obtain ⟨j, U, hj, rfl, hch, hU, hO⟩ := hrel
    have b0 := (hO.blk HH.out.1 HH.out.2.1).cell 0
    by_cases hlt : j < n
    · have hlt2 : (j : Int) < n := by omega
      have hjl : j < ops.length := by rw [HH.out.2.2.2.2.2.2.2.2]; exact hlt
      have e : ops.drop j = ops[j] :: ops.drop (j + 1) := List.drop_eq_getElem_cons hjl
      have hce := ((hO.blk HH.out.2.2.1 HH.out.2.2.2.1).cell j).trans (show (cells ops).toArray[j]? = some (.int .i64 ops[j]) by simp [cells, hjl])
      rw [e] at hch
      obtain ⟨U2, hD, hch⟩ := hch
      generalize ops[j] = op at *
      have hDo := hU.step (fun F hS => hD wr F hS)
      have ej : IntKind.i64.wrap ((j : Int) + 1) = (j + 1 : Nat) := by rw [IntKind.wrap_i64]; omega
      have HR := Lib.hid (And.intro hch hO)
      clear hch hO hU hD e
      go_wp2_with fail
      refine hDo.mono ?_
      rintro _ w3 ⟨rfl, h3, o3⟩
      have H3 := Lib.hid (And.intro h3 (HR.out.2.trans o3))
      clear hDo h3 o3
      go_wp2_with fail
      refine ⟨⟨j + 1, U2, by omega, vint (by omega), HR.out.1, H3.out.1, H3.out.2⟩, ?_⟩
      simp only [intOf]
      omega
    · obtain rfl : j = n := by omega
      rw [List.drop_eq_nil_of_le (by rw [HH.out.2.2.2.2.2.2.2.2]; exact Nat.le_refl _)] at hch
      obtain rfl : U = T := hch
      have hSt := live_stack hU.live
      have hAl := live_all hU.live HH.out.2.2.2.2.2.2.2.1
      have HU := Lib.hid (And.intro hU hO)
      clear hU hO hlt hj
      go_wp2_with fail
      refine hSt.mono ?_
      rintro _ _ ⟨rfl, rfl⟩
      clear hSt
      go_wp2_with fail
      refine hAl.mono ?_
      rintro _ w3 ⟨v, rfl, k1, _, t3⟩
      have HF : Hid (CellsG w3 v U.st ∧ LiveK w0 w3 s U K ∧ On K w w3) := ⟨k1, HU.out.1.quiet t3, HU.out.2.trans (HU.out.1.on t3)⟩
      clear hAl k1 t3
      go_wp2_with fail
      go_ret
      exact ⟨v, rfl, HF.out⟩
end Go.Proofs.YtkbchpaofmlhgaaGreatDoor
