/- Of EngineClean: Shape. -/
import Derived.Test.YtdokeddjcpnmiaaGreatDoorQStkCut
set_option maxRecDepth 100000
set_option maxHeartbeats 200000
namespace Go.Proofs.YtdokeddjcpnmiaaGreatDoor
open Go.RowKit Go.Proofs.Tryz
def places(ps:List Nat):ByteArray:=⟨(ps.map fun i=>UInt8.ofNat (97+i)).toArray⟩
def bf(op:Int)(t:Int)(s:ByteArray)(w:World):Prop:=
 Calls prog 122 #[.int .i64 op] w fun e w'=>e=.returned (.tuple #[.agg #[.int .i64 t,.string s],.bool true])∧Touch [] w w'
theorem XR(w:World):bf 28 1 ⟨#[97,97]⟩ w:=by
 unfold bf;go_enter func122,ntmps122;go_wp2;refine bodyPost_ret (by simp[results,results122,go_sem];try rfl) rfl ⟨rfl,?_⟩;exact((tR w).alloc _).alloc _
theorem XT(w:World):bf 29 1 ⟨#[]⟩ w:=by
 unfold bf;go_enter func122,ntmps122;go_wp2;refine bodyPost_ret (by simp[results,results122,go_sem];try rfl) rfl ⟨rfl,?_⟩;exact((tR w).alloc _).alloc _
theorem XU(w:World):bf 30 2 ⟨#[98,97]⟩ w:=by
 unfold bf;go_enter func122,ntmps122;go_wp2;refine bodyPost_ret (by simp[results,results122,go_sem];try rfl) rfl ⟨rfl,?_⟩;exact((tR w).alloc _).alloc _
theorem XV(w:World):bf 31 2 ⟨#[97,98,97]⟩ w:=by
 unfold bf;go_enter func122,ntmps122;go_wp2;refine bodyPost_ret (by simp[results,results122,go_sem];try rfl) rfl ⟨rfl,?_⟩;exact((tR w).alloc _).alloc _
theorem XW(w:World):bf 32 3 ⟨#[98,99,97]⟩ w:=by
 unfold bf;go_enter func122,ntmps122;go_wp2;refine bodyPost_ret (by simp[results,results122,go_sem];try rfl) rfl ⟨rfl,?_⟩;exact((tR w).alloc _).alloc _
theorem XY(w:World):bf 33 2 ⟨#[98]⟩ w:=by
 unfold bf;go_enter func122,ntmps122;go_wp2;refine bodyPost_ret (by simp[results,results122,go_sem];try rfl) rfl ⟨rfl,?_⟩;exact((tR w).alloc _).alloc _
theorem XZ(w:World):bf 34 2 ⟨#[98,97,98]⟩ w:=by
 unfold bf;go_enter func122,ntmps122;go_wp2;refine bodyPost_ret (by simp[results,results122,go_sem];try rfl) rfl ⟨rfl,?_⟩;exact((tR w).alloc _).alloc _
theorem X0(w:World):bf 35 1 ⟨#[97,97]⟩ w:=by
 unfold bf;go_enter func122,ntmps122;go_wp2;refine bodyPost_ret (by simp[results,results122,go_sem];try rfl) rfl ⟨rfl,?_⟩;exact((tR w).alloc _).alloc _
theorem X3(w:World):bf 36 2 ⟨#[97,98,97,98]⟩ w:=by
 unfold bf;go_enter func122,ntmps122;go_wp2;refine bodyPost_ret (by simp[results,results122,go_sem];try rfl) rfl ⟨rfl,?_⟩;exact((tR w).alloc _).alloc _
theorem X4(w:World):bf 37 2 ⟨#[]⟩ w:=by
 unfold bf;go_enter func122,ntmps122;go_wp2;refine bodyPost_ret (by simp[results,results122,go_sem];try rfl) rfl ⟨rfl,?_⟩;exact((tR w).alloc _).alloc _
theorem TU(w:World):bf 38 4 ⟨#[99,100,97,98]⟩ w:=by
 unfold bf;go_enter func122,ntmps122;go_wp2;refine bodyPost_ret (by simp[results,results122,go_sem];try rfl) rfl ⟨rfl,?_⟩;exact((tR w).alloc _).alloc _
theorem TV(w:World):bf 39 4 ⟨#[97,98,99,100,97,98]⟩ w:=by
 unfold bf;go_enter func122,ntmps122;go_wp2;refine bodyPost_ret (by simp[results,results122,go_sem];try rfl) rfl ⟨rfl,?_⟩;exact((tR w).alloc _).alloc _
def mY:List (Nat×List Nat):=[(1,[0,0]),(1,[]),(2,[1,0]),(2,[0,1,0]),(3,[1,2,0]),(2,[1]),(2,[1,0,1]),(1,[0,0]),(2,[0,1,0,1]),(2,[]),(4,[2,3,0,1]),(4,[0,1,2,3,0,1])]
theorem Pj(k:Nat)(hk:k<12)(w:World):bf (28+k:Nat) ((mY.getD k (0,[])).1:Nat) (places (mY.getD k (0,[])).2) w:=by
 match k,hk with
 |0,_=>exact XR w
 |1,_=>exact XT w
 |2,_=>exact XU w
 |3,_=>exact XV w
 |4,_=>exact XW w
 |5,_=>exact XY w
 |6,_=>exact XZ w
 |7,_=>exact X0 w
 |8,_=>exact X3 w
 |9,_=>exact X4 w
 |10,_=>exact TU w
 |11,_=>exact TV w
end Go.Proofs.YtdokeddjcpnmiaaGreatDoor
