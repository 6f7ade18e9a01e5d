/- PrimMemory: its eight runs. -/
import Derived.Test.YtkbchpaofmlhgaaGreatDoorMemDo
import Derived.Test.YtkbchpaofmlhgaaGreatDoorSame
namespace Go.Proofs.YtkbchpaofmlhgaaGreatDoor
open Go.RowKit

theorem wrap_same (z : Int) : IntKind.i64.wrap z = wrap64 z := by rw [IntKind.wrap_i64]; unfold wrap64; rfl
def Ready (S : PS) : Prop := S.ok ∧ S.n = 1024 ∧ S.bs.length = 1024
theorem CellsG.rowR {w : World} {v : Value} {cs : List Int} (h : CellsG w v cs) : RowR w v cs := by
  rcases h with ⟨rfl, rfl⟩ | ⟨g, c, rfl, hc⟩
  · exact ⟨none, 0, rfl, by simp⟩
  · exact ⟨_, c, rfl, fun i hi => ⟨g, 0, rfl, by rw [Nat.zero_add]; exact hc i _ (cells_get cs i hi)⟩⟩
def BPtr (w : World) (b s : Nat) : Prop := Blk w b 24 #[.pointer (some ⟨s, 0, none⟩)]
theorem run_new {w0 w : World} {s b : Nat} {S T : PS} (ops L : List Int) (h : LiveK w0 w s S [b]) (hB : BPtr w b s) (hlen : L.length ≤ 128) (hops : ops.length ≤ 128) (ch : Chain s ops { S with st := L } T) (hT : T.st.length ≤ 128) :
    Calls Tryz.prog 22 #[.slice (some ⟨w.heap.size, 0, none⟩) L.length L.length, .slice (some ⟨w.heap.size + 1, 0, none⟩) ops.length ops.length, .pointer (some ⟨b, 0, none⟩)] ((w.alloc (.cells (cells L).toArray 36)).alloc (.cells (cells ops).toArray 3)) fun e w' =>
      ∃ v, e = .returned v ∧ CellsG w' v T.st ∧ LiveK w0 w' s T [b] ∧ BPtr w' b s := by
  have t1 := (Touch.refl [] w).alloc (.cells (cells L).toArray 36)
  have t2 := (Touch.refl [] (w.alloc (.cells (cells L).toArray 36))).alloc (.cells (cells ops).toArray 3)
  have b1 := Blk.new w 36 (cells L).toArray
  have b2 := Blk.new_at (n := w.heap.size + 1) (w.alloc (.cells (cells L).toArray 36)) (by simp) 3 (cells ops).toArray
  have k1 := h.more (b := w.heap.size) t1 (Nat.le_refl _) b1.lt
  have k2 := k1.more (b := w.heap.size + 1) t2 (by simp) b2.lt
  have hB2 : Blk _ b 24 #[.pointer (some ⟨s, 0, none⟩)] := (Blk.touch hB t1 (by simp)).touch t2 (by simp)
  refine (run_any w0 _ s b (w.heap.size + 1) w.heap.size S T ops L _ k2 (by simp) hB2 (by simp) b2 (by simp) (b1.touch t2 (by simp)) hlen hops ch hT).mono ?_
  rintro _ w' ⟨v, rfl, h1, h2, h3⟩
  exact ⟨v, rfl, h1, h2.less (by simp), h3.blk (by simp) hB2⟩
theorem same_new {w : World} {v : Value} (cs : List Int) (h : RowR w v cs) (hl : cs.length ≤ 128) :
    Calls Tryz.prog 16 #[v, .slice (some ⟨w.heap.size, 0, none⟩) cs.length cs.length] (w.alloc (.cells (cells cs).toArray 36)) fun e w' => e = .returned (.bool true) ∧ Touch [] w w' := by
  have t1 := (Touch.refl [] w).alloc (.cells (cells cs).toArray 36)
  refine (Same_eq v _ cs _ (h.quiet t1) (RowR.blk (Blk.new w 36 (cells cs).toArray) cs.length) (by omega)).mono ?_
  rintro _ w' ⟨rfl, t⟩
  exact ⟨rfl, t1.trans t (by simp)⟩
/-- what is known behind a run: a row, the state -/
def Ran (w0 : World) (s b : Nat) (cs : List Int) (R : PS → Prop) : Ending → World → Prop := fun e w' => ∃ v T, e = .returned v ∧ CellsG w' v cs ∧ LiveK w0 w' s T [b] ∧ BPtr w' b s ∧ Ready T ∧ R T
section
variable {w0 w : World} {s b : Nat} {S : PS} {k d : Nat} {x y : Int}
/-- a run, by the chain of its operations -/
theorem ran {ops L cs : List Int} {T : PS} {R : PS → Prop} (h : LiveK w0 w s S [b]) (hB : BPtr w b s) (hlen : L.length ≤ 128) (hops : ops.length ≤ 128) (ch : Chain s ops { S with st := L } T) (hcs : T.st = cs) (hT : cs.length ≤ 128) (hr : Ready T) (hR : R T) :
    Calls Tryz.prog 22 #[.slice (some ⟨w.heap.size, 0, none⟩) L.length L.length, .slice (some ⟨w.heap.size + 1, 0, none⟩) ops.length ops.length, .pointer (some ⟨b, 0, none⟩)] ((w.alloc (.cells (cells L).toArray 36)).alloc (.cells (cells ops).toArray 3)) (Ran w0 s b cs R) := by
  refine (run_new ops L h hB hlen hops ch (by rw [hcs]; exact hT)).mono ?_
  rintro _ w' ⟨v, rfl, h1, h2, h3⟩
  exact ⟨v, T, rfl, hcs ▸ h1, h2, h3, hr, hR⟩
theorem chain1 (hr : Ready S) (hk : k + 16 ≤ 1024) (h8 : k % 8 = 0) (hx : Cell6 x) : Chain s [74, 73] { S with st := [(k : Int), x, (k : Int)] } { S with st := [x], bs := putF S.bs k x 8 } := by
  obtain ⟨ho, hn, hl⟩ := hr
  refine ⟨_, does_put (S := { S with st := [(k : Int), x, (k : Int)] }) ho [(k : Int)] x k rfl (by show k + 8 ≤ S.n; omega) h8 (by simp), _, does_get (S := { S with st := [(k : Int)], bs := putF S.bs k x 8 }) ho [] k rfl (by show k + 8 ≤ S.n; omega) h8 (by simp), ?_⟩
  show ({ S with st := [getF (putF S.bs k x 8) k], bs := putF S.bs k x 8 } : PS) = _
  rw [getF_put _ _ _ (by omega) hx]
theorem chain2 (hr : Ready S) (hk : k + 16 ≤ 1024) (h8 : k % 8 = 0) (hx : Cell6 x) (hy : Cell6 y) : Chain s [79, 78] { S with st := [(k : Int), x, y, (k : Int)] } { S with st := [x, y], bs := putF (putF S.bs (k + 8) x 8) k y 8 } := by
  obtain ⟨ho, hn, hl⟩ := hr
  refine ⟨_, does_put2 (S := { S with st := [(k : Int), x, y, (k : Int)] }) ho [(k : Int)] x y k rfl (by show k + 16 ≤ S.n; omega) h8 (by simp), _, does_get2 (S := { S with st := [(k : Int)], bs := putF (putF S.bs (k + 8) x 8) k y 8 }) ho [] k rfl (by show k + 16 ≤ S.n; omega) h8 (by simp), ?_⟩
  show ({ S with st := [getF (putF (putF S.bs (k + 8) x 8) k y 8) (k + 8), getF (putF (putF S.bs (k + 8) x 8) k y 8) k], bs := putF (putF S.bs (k + 8) x 8) k y 8 } : PS) = _
  rw [getF_put _ _ _ (by rw [putF_len]; omega) hy, getF_far _ _ _ _ (by rw [putF_len]; omega) (.inr (Nat.le_refl _)), getF_put _ _ _ (by omega) hx]
theorem chain3 (hr : Ready S) (hk : k + 16 ≤ 1024) (h8 : k % 8 = 0) (hg : getF S.bs k = y) : Chain s [77, 73] { S with st := [(k : Int), x, (k : Int)] } { S with st := [wrap64 (x + y)], bs := putF S.bs k (wrap64 (x + y)) 8 } := by
  obtain ⟨ho, hn, hl⟩ := hr
  refine ⟨_, does_addTo (S := { S with st := [(k : Int), x, (k : Int)] }) ho [(k : Int)] x k rfl (by show k + 8 ≤ S.n; omega) h8 (by simp), _, does_get (S := { S with st := [(k : Int)], bs := putF S.bs k (IntKind.i64.wrap (getF S.bs k + x)) 8 }) ho [] k rfl (by show k + 8 ≤ S.n; omega) h8 (by simp), ?_⟩
  show ({ S with st := [getF (putF S.bs k (IntKind.i64.wrap (getF S.bs k + x)) 8) k], bs := putF S.bs k (IntKind.i64.wrap (getF S.bs k + x)) 8 } : PS) = _
  rw [hg, Int.add_comm y x, wrap_same, getF_put _ _ _ (by omega) (wrap_is6 _)]
theorem chain4 (hr : Ready S) (hk : k + 16 ≤ 1024) (hd : d < 256) : Chain s [76, 75] { S with st := [(k : Int), (d : Int) + 256, (k : Int)] } { S with st := [(d : Int)], bs := S.bs.set k d } := by
  obtain ⟨ho, hn, hl⟩ := hr
  refine ⟨_, does_putC (S := { S with st := [(k : Int), (d : Int) + 256, (k : Int)] }) ho [(k : Int)] ((d : Int) + 256) k rfl (by show k < S.n; omega) (by simp), _, does_getC (S := { S with st := [(k : Int)], bs := S.bs.set k (((d : Int) + 256) % 256) }) ho [] k rfl (by show k < S.n; omega) (by simp), ?_⟩
  show ({ S with st := [(S.bs.set k (((d : Int) + 256) % 256)).getD k 0], bs := S.bs.set k (((d : Int) + 256) % 256) } : PS) = _
  rw [show ((d : Int) + 256) % 256 = d by omega, getDi_set _ _ _ _ (by omega), if_pos rfl]
theorem chain5 (hr : Ready S) (hk : k + 16 ≤ 1024) (hg : S.bs.getD k 0 = d) : Chain s [89] { S with st := [(k : Int)] } { S with st := [(k : Int) + 1, (d : Int)] } := by
  obtain ⟨ho, hn, hl⟩ := hr
  refine ⟨_, does_count (S := { S with st := [(k : Int)] }) ho [] k rfl (by show k < S.n; omega) (by simp), ?_⟩
  show ({ S with st := [(k : Int) + 1, S.bs.getD k 0] } : PS) = _
  rw [hg]
theorem chain6 (hr : Ready S) (hh : S.here = 8) : Chain s [84, 82] { S with st := [x] } { S with st := [16], bs := putF S.bs 8 x 8, here := 16 } := by
  obtain ⟨ho, hn, hl⟩ := hr
  refine ⟨_, does_comma (S := { S with st := [x] }) ho [] x rfl (by show S.here % 8 = 0; omega) (by show S.here + 8 + 512 ≤ S.n; omega) (by simp), _, does_here (S := { S with st := [], bs := putF S.bs S.here x 8, here := S.here + 8 }) ho [] rfl (by simp), ?_⟩
  show ({ S with st := [((S.here + 8 : Nat) : Int)], bs := putF S.bs S.here x 8, here := S.here + 8 } : PS) = _
  rw [hh]
  rfl
theorem chain7 (hr : Ready S) (hk : k + 16 ≤ 1024) (h8 : k % 8 = 0) (hd : d < 256) : Chain s [80, 73] { S with st := [(k : Int), (k : Int), 8, (d : Int)] } { S with st := [wrap64 ((d : Int) * 72340172838076673)], bs := filL S.bs k d 8 } := by
  obtain ⟨ho, hn, hl⟩ := hr
  refine ⟨_, does_fill (S := { S with st := [(k : Int), (k : Int), 8, (d : Int)] }) ho [(k : Int)] k 8 (d : Int) rfl (by show k + 8 ≤ S.n; omega) (by simp), _, does_get (S := { S with st := [(k : Int)], bs := filL S.bs k ((d : Int) % 256) 8 }) ho [] k rfl (by show k + 8 ≤ S.n; omega) h8 (by simp), ?_⟩
  show ({ S with st := [getF (filL S.bs k ((d : Int) % 256) 8) k], bs := filL S.bs k ((d : Int) % 256) 8 } : PS) = _
  rw [show (d : Int) % 256 = d by omega, getF_fil _ _ _ (by omega) hd]
theorem chain8 (hr : Ready S) : Chain s [87, 28, 87] { S with st := [x] } { S with st := [upF x, upF x] } := by
  obtain ⟨ho, hn, hl⟩ := hr
  refine ⟨_, does_aligned (S := { S with st := [x] }) ho [] x rfl (by simp), _, does_dup (S := { S with st := [upF x] }) [] (upF x) rfl (by simp), _, does_aligned (S := { S with st := [upF x, upF x] }) ho [upF x] (upF x) rfl (by simp), ?_⟩
  show ({ S with st := [upF x, upF (upF x)] } : PS) = _
  rw [up_up]
end
end Go.Proofs.YtkbchpaofmlhgaaGreatDoor
