import Derived.Test.YtdokeddjcpnmiaaGreatDoorWorld
import Derived.Test.YtdokeddjcpnmiaaGreatDoorJMapsA
import Derived.Deep.LoopGhost
import Derived.Test.YtdokeddjcpnmiaaGreatDoorJStkA
import Derived.Laws.AppendOwn
import Derived.Deep.Cut
import Derived.Deep.CutRange
import Derived.Lib.SliceRun
/- The table's names, of each kind (printed by wip/r12.py). -/
namespace Go.Proofs.YtdokeddjcpnmiaaGreatDoor
open Go.RowKit
namespace En

def nameL1 : List ByteArray := [⟨#[110, 101, 103, 97, 116, 101]⟩, ⟨#[97, 98, 115]⟩, ⟨#[105, 110, 118, 101, 114, 116]⟩, ⟨#[49, 43]⟩, ⟨#[49, 45]⟩, ⟨#[50, 42]⟩, ⟨#[50, 47]⟩, ⟨#[48, 61]⟩, ⟨#[48, 60]⟩, ⟨#[48, 60, 62]⟩, ⟨#[43]⟩, ⟨#[45]⟩, ⟨#[42]⟩, ⟨#[47]⟩, ⟨#[109, 111, 100]⟩, ⟨#[97, 110, 100]⟩, ⟨#[111, 114]⟩, ⟨#[120, 111, 114]⟩, ⟨#[108, 115, 104, 105, 102, 116]⟩, ⟨#[114, 115, 104, 105, 102, 116]⟩, ⟨#[61]⟩, ⟨#[60, 62]⟩, ⟨#[60]⟩, ⟨#[62]⟩, ⟨#[117, 60]⟩, ⟨#[109, 105, 110]⟩, ⟨#[109, 97, 120]⟩, ⟨#[100, 117, 112]⟩, ⟨#[100, 114, 111, 112]⟩, ⟨#[115, 119, 97, 112]⟩, ⟨#[111, 118, 101, 114]⟩, ⟨#[114, 111, 116]⟩, ⟨#[110, 105, 112]⟩, ⟨#[116, 117, 99, 107]⟩, ⟨#[63, 100, 117, 112]⟩, ⟨#[50, 100, 117, 112]⟩, ⟨#[50, 100, 114, 111, 112]⟩, ⟨#[50, 115, 119, 97, 112]⟩, ⟨#[50, 111, 118, 101, 114]⟩, ⟨#[112, 105, 99, 107]⟩, ⟨#[114, 111, 108, 108]⟩, ⟨#[100, 101, 112, 116, 104]⟩, ⟨#[115, 62, 100]⟩, ⟨#[100, 43]⟩, ⟨#[100, 45]⟩, ⟨#[100, 110, 101, 103, 97, 116, 101]⟩, ⟨#[100, 97, 98, 115]⟩, ⟨#[100, 60]⟩, ⟨#[100, 117, 60]⟩, ⟨#[100, 61]⟩, ⟨#[100, 50, 42]⟩, ⟨#[100, 50, 47]⟩, ⟨#[109, 42]⟩, ⟨#[117, 109, 42]⟩, ⟨#[117, 109, 47, 109, 111, 100]⟩, ⟨#[102, 109, 47, 109, 111, 100]⟩, ⟨#[115, 109, 47, 114, 101, 109]⟩, ⟨#[42, 47]⟩, ⟨#[42, 47, 109, 111, 100]⟩, ⟨#[47, 109, 111, 100]⟩, ⟨#[102, 110, 101, 103, 97, 116, 101]⟩, ⟨#[102, 97, 98, 115]⟩, ⟨#[102, 43]⟩, ⟨#[102, 45]⟩, ⟨#[102, 42]⟩, ⟨#[102, 47]⟩, ⟨#[102, 109, 105, 110]⟩, ⟨#[102, 109, 97, 120]⟩, ⟨#[102, 60]⟩, ⟨#[102, 61]⟩, ⟨#[115, 62, 102]⟩, ⟨#[102, 62, 115]⟩, ⟨#[64]⟩, ⟨#[33]⟩, ⟨#[99, 64]⟩, ⟨#[99, 33]⟩, ⟨#[43, 33]⟩, ⟨#[50, 64]⟩, ⟨#[50, 33]⟩, ⟨#[102, 105, 108, 108]⟩, ⟨#[109, 111, 118, 101]⟩, ⟨#[104, 101, 114, 101]⟩, ⟨#[97, 108, 108, 111, 116]⟩, ⟨#[44]⟩, ⟨#[99, 44]⟩, ⟨#[97, 108, 105, 103, 110]⟩, ⟨#[97, 108, 105, 103, 110, 101, 100]⟩, ⟨#[99, 101, 108, 108, 115]⟩, ⟨#[99, 111, 117, 110, 116]⟩, ⟨#[101, 109, 105, 116]⟩, ⟨#[46]⟩, ⟨#[117, 46]⟩, ⟨#[100, 46]⟩, ⟨#[102, 46]⟩, ⟨#[99, 114]⟩, ⟨#[115, 112, 97, 99, 101]⟩, ⟨#[115, 112, 97, 99, 101, 115]⟩, ⟨#[116, 121, 112, 101]⟩, ⟨#[46, 115]⟩, ⟨#[100, 101, 99, 105, 109, 97, 108]⟩, ⟨#[104, 101, 120]⟩, ⟨#[60, 35]⟩, ⟨#[35]⟩, ⟨#[35, 115]⟩, ⟨#[104, 111, 108, 100]⟩, ⟨#[115, 105, 103, 110]⟩, ⟨#[35, 62]⟩]
def nameV1 : Array Value := #[.string ⟨#[110, 101, 103, 97, 116, 101]⟩, .string ⟨#[97, 98, 115]⟩, .string ⟨#[105, 110, 118, 101, 114, 116]⟩, .string ⟨#[49, 43]⟩, .string ⟨#[49, 45]⟩, .string ⟨#[50, 42]⟩, .string ⟨#[50, 47]⟩, .string ⟨#[48, 61]⟩, .string ⟨#[48, 60]⟩, .string ⟨#[48, 60, 62]⟩, .string ⟨#[43]⟩, .string ⟨#[45]⟩, .string ⟨#[42]⟩, .string ⟨#[47]⟩, .string ⟨#[109, 111, 100]⟩, .string ⟨#[97, 110, 100]⟩, .string ⟨#[111, 114]⟩, .string ⟨#[120, 111, 114]⟩, .string ⟨#[108, 115, 104, 105, 102, 116]⟩, .string ⟨#[114, 115, 104, 105, 102, 116]⟩, .string ⟨#[61]⟩, .string ⟨#[60, 62]⟩, .string ⟨#[60]⟩, .string ⟨#[62]⟩, .string ⟨#[117, 60]⟩, .string ⟨#[109, 105, 110]⟩, .string ⟨#[109, 97, 120]⟩, .string ⟨#[100, 117, 112]⟩, .string ⟨#[100, 114, 111, 112]⟩, .string ⟨#[115, 119, 97, 112]⟩, .string ⟨#[111, 118, 101, 114]⟩, .string ⟨#[114, 111, 116]⟩, .string ⟨#[110, 105, 112]⟩, .string ⟨#[116, 117, 99, 107]⟩, .string ⟨#[63, 100, 117, 112]⟩, .string ⟨#[50, 100, 117, 112]⟩, .string ⟨#[50, 100, 114, 111, 112]⟩, .string ⟨#[50, 115, 119, 97, 112]⟩, .string ⟨#[50, 111, 118, 101, 114]⟩, .string ⟨#[112, 105, 99, 107]⟩, .string ⟨#[114, 111, 108, 108]⟩, .string ⟨#[100, 101, 112, 116, 104]⟩, .string ⟨#[115, 62, 100]⟩, .string ⟨#[100, 43]⟩, .string ⟨#[100, 45]⟩, .string ⟨#[100, 110, 101, 103, 97, 116, 101]⟩, .string ⟨#[100, 97, 98, 115]⟩, .string ⟨#[100, 60]⟩, .string ⟨#[100, 117, 60]⟩, .string ⟨#[100, 61]⟩, .string ⟨#[100, 50, 42]⟩, .string ⟨#[100, 50, 47]⟩, .string ⟨#[109, 42]⟩, .string ⟨#[117, 109, 42]⟩, .string ⟨#[117, 109, 47, 109, 111, 100]⟩, .string ⟨#[102, 109, 47, 109, 111, 100]⟩, .string ⟨#[115, 109, 47, 114, 101, 109]⟩, .string ⟨#[42, 47]⟩, .string ⟨#[42, 47, 109, 111, 100]⟩, .string ⟨#[47, 109, 111, 100]⟩, .string ⟨#[102, 110, 101, 103, 97, 116, 101]⟩, .string ⟨#[102, 97, 98, 115]⟩, .string ⟨#[102, 43]⟩, .string ⟨#[102, 45]⟩, .string ⟨#[102, 42]⟩, .string ⟨#[102, 47]⟩, .string ⟨#[102, 109, 105, 110]⟩, .string ⟨#[102, 109, 97, 120]⟩, .string ⟨#[102, 60]⟩, .string ⟨#[102, 61]⟩, .string ⟨#[115, 62, 102]⟩, .string ⟨#[102, 62, 115]⟩, .string ⟨#[64]⟩, .string ⟨#[33]⟩, .string ⟨#[99, 64]⟩, .string ⟨#[99, 33]⟩, .string ⟨#[43, 33]⟩, .string ⟨#[50, 64]⟩, .string ⟨#[50, 33]⟩, .string ⟨#[102, 105, 108, 108]⟩, .string ⟨#[109, 111, 118, 101]⟩, .string ⟨#[104, 101, 114, 101]⟩, .string ⟨#[97, 108, 108, 111, 116]⟩, .string ⟨#[44]⟩, .string ⟨#[99, 44]⟩, .string ⟨#[97, 108, 105, 103, 110]⟩, .string ⟨#[97, 108, 105, 103, 110, 101, 100]⟩, .string ⟨#[99, 101, 108, 108, 115]⟩, .string ⟨#[99, 111, 117, 110, 116]⟩, .string ⟨#[101, 109, 105, 116]⟩, .string ⟨#[46]⟩, .string ⟨#[117, 46]⟩, .string ⟨#[100, 46]⟩, .string ⟨#[102, 46]⟩, .string ⟨#[99, 114]⟩, .string ⟨#[115, 112, 97, 99, 101]⟩, .string ⟨#[115, 112, 97, 99, 101, 115]⟩, .string ⟨#[116, 121, 112, 101]⟩, .string ⟨#[46, 115]⟩, .string ⟨#[100, 101, 99, 105, 109, 97, 108]⟩, .string ⟨#[104, 101, 120]⟩, .string ⟨#[60, 35]⟩, .string ⟨#[35]⟩, .string ⟨#[35, 115]⟩, .string ⟨#[104, 111, 108, 100]⟩, .string ⟨#[115, 105, 103, 110]⟩, .string ⟨#[35, 62]⟩]
theorem nameV1_eq : (nameL1.map Value.string).toArray = nameV1 := rfl
set_option maxRecDepth 100000 in
set_option maxHeartbeats 3200000 in
theorem names_1 (w : World) : Calls Tryz.prog 57 #[.int .i64 1] w fun e w' => e = .returned (.slice (some ⟨w.heap.size, 0, none⟩) 107 107) ∧ w.alloc (.cells nameV1 9) = w' := by
  go_enter Tryz.func57, Tryz.ntmps57
  go_wp2
  refine wp_value (v := .slice (some ⟨w.heap.size, 0, none⟩) 107 107) (w1 := w.alloc (.cells nameV1 9)) (by kernel_rfl) ?_
  go_wp2
  go_ret
  exact ⟨rfl, rfl⟩
def nameL2 : List ByteArray := [⟨#[62, 114]⟩, ⟨#[114, 62]⟩, ⟨#[114, 64]⟩, ⟨#[105]⟩, ⟨#[106]⟩, ⟨#[117, 110, 108, 111, 111, 112]⟩, ⟨#[101, 120, 101, 99, 117, 116, 101]⟩, ⟨#[99, 97, 116, 99, 104]⟩, ⟨#[116, 104, 114, 111, 119]⟩]
def nameV2 : Array Value := #[.string ⟨#[62, 114]⟩, .string ⟨#[114, 62]⟩, .string ⟨#[114, 64]⟩, .string ⟨#[105]⟩, .string ⟨#[106]⟩, .string ⟨#[117, 110, 108, 111, 111, 112]⟩, .string ⟨#[101, 120, 101, 99, 117, 116, 101]⟩, .string ⟨#[99, 97, 116, 99, 104]⟩, .string ⟨#[116, 104, 114, 111, 119]⟩]
theorem nameV2_eq : (nameL2.map Value.string).toArray = nameV2 := rfl
set_option maxRecDepth 100000 in
set_option maxHeartbeats 3200000 in
theorem names_2 (w : World) : Calls Tryz.prog 57 #[.int .i64 2] w fun e w' => e = .returned (.slice (some ⟨w.heap.size, 0, none⟩) 9 9) ∧ w.alloc (.cells nameV2 9) = w' := by
  go_enter Tryz.func57, Tryz.ntmps57
  go_wp2
  go_ret
  exact ⟨rfl, rfl⟩
def nameL3 : List ByteArray := [⟨#[105, 102]⟩, ⟨#[101, 108, 115, 101]⟩, ⟨#[116, 104, 101, 110]⟩, ⟨#[98, 101, 103, 105, 110]⟩, ⟨#[119, 104, 105, 108, 101]⟩, ⟨#[114, 101, 112, 101, 97, 116]⟩, ⟨#[117, 110, 116, 105, 108]⟩, ⟨#[97, 103, 97, 105, 110]⟩, ⟨#[100, 111]⟩, ⟨#[63, 100, 111]⟩, ⟨#[108, 111, 111, 112]⟩, ⟨#[43, 108, 111, 111, 112]⟩, ⟨#[108, 101, 97, 118, 101]⟩, ⟨#[99, 97, 115, 101]⟩, ⟨#[111, 102]⟩, ⟨#[101, 110, 100, 111, 102]⟩, ⟨#[101, 110, 100, 99, 97, 115, 101]⟩]
def nameV3 : Array Value := #[.string ⟨#[105, 102]⟩, .string ⟨#[101, 108, 115, 101]⟩, .string ⟨#[116, 104, 101, 110]⟩, .string ⟨#[98, 101, 103, 105, 110]⟩, .string ⟨#[119, 104, 105, 108, 101]⟩, .string ⟨#[114, 101, 112, 101, 97, 116]⟩, .string ⟨#[117, 110, 116, 105, 108]⟩, .string ⟨#[97, 103, 97, 105, 110]⟩, .string ⟨#[100, 111]⟩, .string ⟨#[63, 100, 111]⟩, .string ⟨#[108, 111, 111, 112]⟩, .string ⟨#[43, 108, 111, 111, 112]⟩, .string ⟨#[108, 101, 97, 118, 101]⟩, .string ⟨#[99, 97, 115, 101]⟩, .string ⟨#[111, 102]⟩, .string ⟨#[101, 110, 100, 111, 102]⟩, .string ⟨#[101, 110, 100, 99, 97, 115, 101]⟩]
theorem nameV3_eq : (nameL3.map Value.string).toArray = nameV3 := rfl
set_option maxRecDepth 100000 in
set_option maxHeartbeats 3200000 in
theorem names_3 (w : World) : Calls Tryz.prog 57 #[.int .i64 3] w fun e w' => e = .returned (.slice (some ⟨w.heap.size, 0, none⟩) 17 17) ∧ w.alloc (.cells nameV3 9) = w' := by
  go_enter Tryz.func57, Tryz.ntmps57
  go_wp2
  go_ret
  exact ⟨rfl, rfl⟩
def nameL4 : List ByteArray := [⟨#[58]⟩, ⟨#[58, 110, 111, 110, 97, 109, 101]⟩, ⟨#[59]⟩, ⟨#[101, 120, 105, 116]⟩, ⟨#[114, 101, 99, 117, 114, 115, 101]⟩, ⟨#[91]⟩, ⟨#[93]⟩, ⟨#[108, 105, 116, 101, 114, 97, 108]⟩, ⟨#[99, 111, 109, 112, 105, 108, 101, 44]⟩, ⟨#[112, 111, 115, 116, 112, 111, 110, 101]⟩, ⟨#[39]⟩, ⟨#[91, 39, 93]⟩, ⟨#[105, 109, 109, 101, 100, 105, 97, 116, 101]⟩, ⟨#[99, 114, 101, 97, 116, 101]⟩, ⟨#[100, 111, 101, 115, 62]⟩, ⟨#[99, 111, 110, 115, 116, 97, 110, 116]⟩, ⟨#[118, 97, 114, 105, 97, 98, 108, 101]⟩, ⟨#[118, 97, 108, 117, 101]⟩, ⟨#[116, 111]⟩, ⟨#[100, 101, 102, 101, 114]⟩, ⟨#[105, 115]⟩, ⟨#[99, 104, 97, 114]⟩, ⟨#[91, 99, 104, 97, 114, 93]⟩, ⟨#[40]⟩, ⟨#[92]⟩, ⟨#[115, 34]⟩, ⟨#[115, 92, 34]⟩, ⟨#[46, 34]⟩, ⟨#[101, 118, 97, 108, 117, 97, 116, 101]⟩, ⟨#[112, 97, 114, 115, 101]⟩, ⟨#[112, 97, 114, 115, 101, 45, 110, 97, 109, 101]⟩, ⟨#[115, 97, 118, 101, 45, 105, 110, 112, 117, 116]⟩, ⟨#[114, 101, 115, 116, 111, 114, 101, 45, 105, 110, 112, 117, 116]⟩, ⟨#[123, 58]⟩, ⟨#[119, 111, 114, 100, 108, 105, 115, 116]⟩, ⟨#[115, 101, 116, 45, 99, 117, 114, 114, 101, 110, 116]⟩, ⟨#[115, 101, 116, 45, 111, 114, 100, 101, 114]⟩, ⟨#[103, 101, 116, 45, 111, 114, 100, 101, 114]⟩, ⟨#[109, 97, 114, 107, 101, 114]⟩, ⟨#[115, 101, 116, 45, 114, 101, 99, 111, 103, 110, 105, 122, 101, 114, 115]⟩, ⟨#[103, 101, 116, 45, 114, 101, 99, 111, 103, 110, 105, 122, 101, 114, 115]⟩, ⟨#[107, 101, 121]⟩, ⟨#[98, 121, 101]⟩, ⟨#[40, 100, 111, 101, 115, 62, 41]⟩, ⟨#[40, 116, 111, 41]⟩, ⟨#[40, 105, 115, 41]⟩, ⟨#[40, 109, 97, 114, 107, 101, 114, 41]⟩]
def nameV4 : Array Value := #[.string ⟨#[58]⟩, .string ⟨#[58, 110, 111, 110, 97, 109, 101]⟩, .string ⟨#[59]⟩, .string ⟨#[101, 120, 105, 116]⟩, .string ⟨#[114, 101, 99, 117, 114, 115, 101]⟩, .string ⟨#[91]⟩, .string ⟨#[93]⟩, .string ⟨#[108, 105, 116, 101, 114, 97, 108]⟩, .string ⟨#[99, 111, 109, 112, 105, 108, 101, 44]⟩, .string ⟨#[112, 111, 115, 116, 112, 111, 110, 101]⟩, .string ⟨#[39]⟩, .string ⟨#[91, 39, 93]⟩, .string ⟨#[105, 109, 109, 101, 100, 105, 97, 116, 101]⟩, .string ⟨#[99, 114, 101, 97, 116, 101]⟩, .string ⟨#[100, 111, 101, 115, 62]⟩, .string ⟨#[99, 111, 110, 115, 116, 97, 110, 116]⟩, .string ⟨#[118, 97, 114, 105, 97, 98, 108, 101]⟩, .string ⟨#[118, 97, 108, 117, 101]⟩, .string ⟨#[116, 111]⟩, .string ⟨#[100, 101, 102, 101, 114]⟩, .string ⟨#[105, 115]⟩, .string ⟨#[99, 104, 97, 114]⟩, .string ⟨#[91, 99, 104, 97, 114, 93]⟩, .string ⟨#[40]⟩, .string ⟨#[92]⟩, .string ⟨#[115, 34]⟩, .string ⟨#[115, 92, 34]⟩, .string ⟨#[46, 34]⟩, .string ⟨#[101, 118, 97, 108, 117, 97, 116, 101]⟩, .string ⟨#[112, 97, 114, 115, 101]⟩, .string ⟨#[112, 97, 114, 115, 101, 45, 110, 97, 109, 101]⟩, .string ⟨#[115, 97, 118, 101, 45, 105, 110, 112, 117, 116]⟩, .string ⟨#[114, 101, 115, 116, 111, 114, 101, 45, 105, 110, 112, 117, 116]⟩, .string ⟨#[123, 58]⟩, .string ⟨#[119, 111, 114, 100, 108, 105, 115, 116]⟩, .string ⟨#[115, 101, 116, 45, 99, 117, 114, 114, 101, 110, 116]⟩, .string ⟨#[115, 101, 116, 45, 111, 114, 100, 101, 114]⟩, .string ⟨#[103, 101, 116, 45, 111, 114, 100, 101, 114]⟩, .string ⟨#[109, 97, 114, 107, 101, 114]⟩, .string ⟨#[115, 101, 116, 45, 114, 101, 99, 111, 103, 110, 105, 122, 101, 114, 115]⟩, .string ⟨#[103, 101, 116, 45, 114, 101, 99, 111, 103, 110, 105, 122, 101, 114, 115]⟩, .string ⟨#[107, 101, 121]⟩, .string ⟨#[98, 121, 101]⟩, .string ⟨#[40, 100, 111, 101, 115, 62, 41]⟩, .string ⟨#[40, 116, 111, 41]⟩, .string ⟨#[40, 105, 115, 41]⟩, .string ⟨#[40, 109, 97, 114, 107, 101, 114, 41]⟩]
theorem nameV4_eq : (nameL4.map Value.string).toArray = nameV4 := rfl
set_option maxRecDepth 100000 in
set_option maxHeartbeats 3200000 in
theorem names_4 (w : World) : Calls Tryz.prog 57 #[.int .i64 4] w fun e w' => e = .returned (.slice (some ⟨w.heap.size, 0, none⟩) 47 47) ∧ w.alloc (.cells nameV4 9) = w' := by
  go_enter Tryz.func57, Tryz.ntmps57
  go_wp2
  go_ret
  exact ⟨rfl, rfl⟩
set_option maxRecDepth 100000 in
set_option maxHeartbeats 3200000 in
theorem now_any (n : Int) (w : World) : Calls Tryz.prog 58 #[.int .i64 n] w fun e w' => ∃ b, e = .returned (.bool b) ∧ w = w' := by
  go_enter Tryz.func58, Tryz.ntmps58
  go_wp2
  all_goals go_ret
  all_goals exact ⟨_, rfl, rfl⟩
set_option maxRecDepth 100000 in
set_option maxHeartbeats 3200000 in
theorem only_any (n : Int) (w : World) : Calls Tryz.prog 59 #[.int .i64 n] w fun e w' => ∃ b, e = .returned (.bool b) ∧ w = w' := by
  go_enter Tryz.func59, Tryz.ntmps59
  go_wp2
  all_goals go_ret
  all_goals exact ⟨_, rfl, rfl⟩
end En
end Go.Proofs.YtdokeddjcpnmiaaGreatDoor

/- The table's rows: rhytonref12.All. -/
namespace Go.Proofs.YtdokeddjcpnmiaaGreatDoor
open Go.RowKit
namespace En

def nameL (k : Int) : List ByteArray := if k = 1 then nameL1 else if k = 2 then nameL2 else if k = 3 then nameL3 else nameL4
theorem names_any (k : Int) (h1 : 1 ≤ k) (h2 : k ≤ 4) (w : World) : Calls Tryz.prog 57 #[.int .i64 k] w fun e w' => e = .returned (.slice (some ⟨w.heap.size, 0, none⟩) (nameL k).length (nameL k).length) ∧ w.alloc (.cells ((nameL k).map Value.string).toArray 9) = w' := by
  rcases (by omega : k = 1 ∨ k = 2 ∨ k = 3 ∨ k = 4) with rfl | rfl | rfl | rfl
  · exact names_1 w
  · exact names_2 w
  · exact names_3 w
  · exact names_4 w
theorem nameL_len (k : Int) : (nameL k).length ≤ 107 := by
  unfold nameL
  split
  · decide
  · split
    · decide
    · split <;> decide
abbrev Bt := ByteArray × Int × Int × Bool × Bool
def bCells (x : Bt) : List Value := [.string x.1, .int .i64 x.2.1, .int .i64 x.2.2.1, .bool x.2.2.2.1, .bool x.2.2.2.2]
theorem bCells_one (x : Bt) : ∀ u ∈ bCells x, u.oneCell' = true := by
  intro u hu; simp [bCells] at hu; rcases hu with rfl | rfl | rfl | rfl | rfl <;> rfl
def keyB (x : Bt) : ByteArray × Int × Int := (x.1, x.2.1, x.2.2.1)
/-- the rows of a kind; of the kinds below -/
def kindL (k : Int) : List (ByteArray × Int × Int) := (nameL k).mapIdx fun i s => (s, k, (i : Int) + 1)
def preL (k : Int) : List (ByteArray × Int × Int) := (if 1 < k then kindL 1 else []) ++ ((if 2 < k then kindL 2 else []) ++ ((if 3 < k then kindL 3 else []) ++ (if 4 < k then kindL 4 else [])))
theorem preL_succ (k : Int) (h1 : 1 ≤ k) (h2 : k ≤ 4) : preL (k + 1) = preL k ++ kindL k := by
  rcases (by omega : k = 1 ∨ k = 2 ∨ k = 3 ∨ k = 4) with rfl | rfl | rfl | rfl <;> simp [preL]
theorem kindL_take (k : Int) (j : Nat) (h : j < (nameL k).length) : (kindL k).take (j + 1) = (kindL k).take j ++ [((nameL k).getD j .empty, k, (j : Int) + 1)] := by
  unfold kindL
  have hl : j < ((nameL k).mapIdx fun i s => (s, k, (i : Int) + 1)).length := by simpa using h
  rw [List.take_succ_eq_append_getElem hl, List.getElem_mapIdx, List.getD_eq_getElem?_getD, List.getElem?_eq_getElem h]
  rfl
theorem kindL_all (k : Int) : (kindL k).take (nameL k).length = kindL k := List.take_of_length_le (by unfold kindL; simp)
/-- rows in memory -/
def TabAt (B : Nat) (v : Value) (l : List (ByteArray × Int × Int)) (w : World) : Prop := ∃ L : List Bt, L.map keyB = l ∧ w.ownsRow B 79 5 v L.length (L.flatMap bCells)
theorem info_built : (Tryz.prog.info? 79).map (fun i => (i.zero, i.size, i.bytes)) = some (some (.agg #[.string .empty, .int .i64 0, .int .i64 0, .bool false, .bool false]), 5, 40) := by kernel_rfl
theorem info_built' : ∃ i0, Tryz.prog.info? 79 = some i0 ∧ i0.zero = some (.agg #[.string .empty, .int .i64 0, .int .i64 0, .bool false, .bool false]) ∧ i0.size = 5 ∧ i0.bytes = 40 := by
  have h := info_built
  cases hi : Tryz.prog.info? 79 with
  | none => rw [hi] at h; cases h
  | some i =>
    rw [hi] at h
    simp only [Option.map_some, Option.some.injEq, Prod.mk.injEq] at h
    exact ⟨i, rfl, h.1, h.2.1, h.2.2⟩
def OuterRel (w : World) (k : Int) (v : Value) (wr : World) : Prop := TabAt w.heap.size v (preL k) wr ∧ Touch [] w wr
def InnerRel (w : World) (lb : Nat) (k : Int) (j : Nat) (v : Value) (wr : World) : Prop := TabAt w.heap.size v (preL k ++ (kindL k).take j) wr ∧ Touch [] w wr ∧ Blk wr lb 9 ((nameL k).map Value.string).toArray ∧ (∀ x ∈ rowOf v, x ≠ lb)
set_option maxRecDepth 100000 in
set_option maxHeartbeats 3200000 in
theorem All_rows (w : World) : Calls Tryz.prog 38 #[] w fun e w' => ∃ v, e = .returned v ∧ OuterRel w 5 v w' := by
  obtain ⟨i0, hi, hz0, hz1, hz2⟩ := info_built'
  have h0 : OuterRel w 1 (.slice none 0 0) w := ⟨⟨[], rfl, World.ownsRow_nil _ _ _ _⟩, Touch.refl _ _⟩
  go_enter Tryz.func38, Tryz.ntmps38
  go_wp2_with fail
  go_loopw [1, 2] (fun out kd wr => ∃ k : Int, 1 ≤ k ∧ k ≤ 5 ∧ kd = .int .i64 k ∧ OuterRel w k out wr) (fun _ kd _ => (5 - intOf kd).toNat)
  case atStart => exact ⟨1, by decide, by decide, rfl, h0⟩
  case round =>
    obtain ⟨k, hk1, hk5, rfl, hR⟩ := hrel
    have HR := Lib.hid hR
    clear h0 hR
    by_cases h5 : k = 5
    · subst h5
      go_wp2_with fail
      go_ret
      exact ⟨_, rfl, HR.out⟩
    · have hk4 : k ≤ 4 := by omega
      have hN := names_any k hk1 hk4 wr
      have hln := nameL_len k
      obtain ⟨n, hn⟩ : ∃ n, (nameL k).length = n := ⟨_, rfl⟩
      rw [hn] at hN hln
      have HN := Lib.hid hn
      clear h5 hk5 hn
      go_wp2_with fail
      refine hN.mono ?_
      rintro _ _ ⟨rfl, rfl⟩
      clear hN
      obtain ⟨hT, tR⟩ := HR.out
      have hLb : ∀ v, TabAt w.heap.size v (preL k) wr → ∀ x ∈ rowOf v, x ≠ wr.heap.size := fun v ⟨L, _, hL⟩ x hx => by have := row_lt hL hx; omega
      have hI : InnerRel w wr.heap.size k 0 u1 (wr.alloc (.cells ((nameL k).map Value.string).toArray 9)) := by
        refine ⟨?_, tR.alloc _, Blk.new _ _ _, hLb _ hT⟩
        obtain ⟨L, e, hL⟩ := hT
        exact ⟨L, by rw [e]; simp, row_touch hL ((Touch.refl [] wr).alloc _) (by simp)⟩
      obtain ⟨lb, hlb⟩ : ∃ lb, wr.heap.size = lb := ⟨_, rfl⟩
      have hlw : w.heap.size ≤ lb := by rw [← hlb]; exact tR.size
      rw [hlb] at hI
      have HLW := Lib.hid hlw
      clear hT tR hLb hlw
      go_upto_region 6 with fail
      clear hlb
      generalize wr.alloc (.cells ((nameL k).map Value.string).toArray 9) = wA at *
      go_wp2_with fail
      go_loopw [1, 4] (fun out i wq => ∃ j : Nat, j ≤ n ∧ i = .int .i64 j ∧ InnerRel w lb k j out wq) (fun _ i _ => n - (intOf i).toNat)
      case atStart => exact ⟨0, Nat.zero_le _, rfl, hI⟩
      case round =>
        obtain ⟨j, hj, rfl, hI⟩ := hrel
        rcases Nat.lt_or_ge j n with hlt | hge
        · obtain ⟨hT, tQ, bL, hne⟩ := hI
          have cL := bL.cell j
          have hcl : (((nameL k).map Value.string).toArray)[j]? = some (.string ((nameL k).getD j .empty)) := by
            rw [List.getElem?_toArray, List.getElem?_map, List.getD_eq_getElem?_getD, List.getElem?_eq_getElem (by rw [HN.out]; exact hlt)]
            rfl
          rw [hcl] at cL
          have hTk := kindL_take k j (by rw [HN.out]; exact hlt)
          obtain ⟨nm, hnm⟩ : ∃ nm, (nameL k).getD j .empty = nm := ⟨_, rfl⟩
          rw [hnm] at cL hTk
          have HT := Lib.hid (And.intro hT (And.intro tQ (And.intro bL (And.intro hne hTk))))
          clear hT tQ bL hne hTk hcl hnm
          go_upto_region 10 with fail
          have bY := Blk.new wr 79 #[.string nm, .int .i64 k, .int .i64 ((j : Int) + 1), .bool false, .bool false]
          have tY := (Touch.refl [] wr).alloc (.cells #[.string nm, .int .i64 k, .int .i64 ((j : Int) + 1), .bool false, .bool false] 79)
          obtain ⟨y, hy⟩ : ∃ y, wr.heap.size = y := ⟨_, rfl⟩
          rw [hy] at bY ⊢
          have HY := Lib.hid (show wr.heap.size ≤ y by omega)
          clear cL hy
          generalize wr.alloc (.cells #[.string nm, .int .i64 k, .int .i64 ((j : Int) + 1), .bool false, .bool false] 79) = wB at *
          go_cut [5] from 26 to 37 (fun yv wc => yv = .pointer (some ⟨y, 0, none⟩) ∧ ∃ b1, Blk wc y 79 #[.string nm, .int .i64 k, .int .i64 ((j : Int) + 1), .bool b1, .bool false] ∧ Touch [] wr wc)
          case first =>
            have d3 := bY.cell 3
            have f3 := bY.frozen 3
            have HB := Lib.hid (And.intro bY tY)
            clear bY tY
            have fin : ∀ b1, Hid (Blk (wB.setCell ⟨y, 3, none⟩ (.bool b1)) y 79 #[.string nm, .int .i64 k, .int .i64 ((j : Int) + 1), .bool b1, .bool false] ∧ Touch [] wr (wB.setCell ⟨y, 3, none⟩ (.bool b1))) := fun b1 => Lib.hid ⟨HB.out.1.set_ 3 _, HB.out.2.setCell (.inr HY.out) _⟩
            by_cases h3 : k = 3
            · have q3 : (k == 3) = true := by simpa using h3
              clear h3
              go_wp2_with fail
              all_goals go_meet
              all_goals exact ⟨rfl, _, (fin _).out⟩
            have q3 : (k == 3) = false := by simpa using h3
            by_cases h4 : k = 4
            · have q4 : (k == 4) = true := by simpa using h4
              have hNo := fun W => now_any ((j : Int) + 1) W
              clear h4 h3
              go_wp2_with fail
              refine (hNo _).mono ?_
              rintro _ _ ⟨b1, rfl, rfl⟩
              go_wp2_with fail
              go_meet
              exact ⟨rfl, _, (fin _).out⟩
            · have q4 : (k == 4) = false := by simpa using h4
              clear h3 h4
              go_wp2_with fail
              all_goals go_meet
              all_goals exact ⟨rfl, _, (fin _).out⟩
          case rest =>
            obtain ⟨rfl, b1, bY, tY⟩ := hcut
            go_upto_region 11 with fail
            go_cut [5] from 38 to 57 (fun yv wc => yv = .pointer (some ⟨y, 0, none⟩) ∧ ∃ b2, Blk wc y 79 #[.string nm, .int .i64 k, .int .i64 ((j : Int) + 1), .bool b1, .bool b2] ∧ Touch [] wr wc)
            case first =>
              have d4 := bY.cell 4
              have f4 := bY.frozen 4
              have HB := Lib.hid (And.intro bY tY)
              clear bY tY
              have fin : ∀ b2, Hid (Blk (wc.setCell ⟨y, 4, none⟩ (.bool b2)) y 79 #[.string nm, .int .i64 k, .int .i64 ((j : Int) + 1), .bool b1, .bool b2] ∧ Touch [] wr (wc.setCell ⟨y, 4, none⟩ (.bool b2))) := fun b2 => Lib.hid ⟨HB.out.1.set_ 4 _, HB.out.2.setCell (.inr HY.out) _⟩
              by_cases h3 : k = 3
              · have q3 : (k == 3) = true := by simpa using h3
                clear h3
                go_wp2_with fail
                all_goals go_meet
                all_goals exact ⟨rfl, _, (fin _).out⟩
              have q3 : (k == 3) = false := by simpa using h3
              by_cases h4 : k = 4
              · have q4 : (k == 4) = true := by simpa using h4
                have q2 : (k == 2) = false := by simp; omega
                have hNo := fun W => only_any ((j : Int) + 1) W
                clear h4 h3
                go_wp2_with fail
                refine (hNo _).mono ?_
                rintro _ _ ⟨b2, rfl, rfl⟩
                go_wp2_with fail
                go_meet
                exact ⟨rfl, _, (fin _).out⟩
              have q4 : (k == 4) = false := by simpa using h4
              by_cases h2 : k = 2
              · have q2 : (k == 2) = true := by simpa using h2
                clear h2 h3 h4
                by_cases h6 : (j : Int) < 6
                · have q6 : decide ((j : Int) < 6) = true := by simpa using h6
                  go_wp2_with fail
                  all_goals go_meet
                  all_goals exact ⟨rfl, _, (fin _).out⟩
                · have q6 : decide ((j : Int) < 6) = false := by simpa using h6
                  go_wp2_with fail
                  all_goals go_meet
                  all_goals exact ⟨rfl, _, (fin _).out⟩
              · have q2 : (k == 2) = false := by simpa using h2
                clear h2 h3 h4
                go_wp2_with fail
                all_goals go_meet
                all_goals exact ⟨rfl, _, (fin _).out⟩
            case rest =>
              obtain ⟨rfl, b2, bY, tY⟩ := hcut
              obtain ⟨hT, tQ, bL, hne, hTk⟩ := HT.out
              obtain ⟨L, eL, hown⟩ := hT
              have hLl : L.length ≤ 1000 := by
                have e1 : L.length = (preL k ++ (kindL k).take j).length := by rw [← eL, List.length_map]
                have e2 : (preL k).length ≤ 400 := by
                  unfold preL
                  have h1 : (kindL 1).length = 107 := rfl
                  have h2 : (kindL 2).length = 9 := rfl
                  have h3 : (kindL 3).length = 17 := rfl
                  have h4 : (kindL 4).length = 47 := rfl
                  simp only [List.length_append]
                  split <;> split <;> split <;> split <;> simp [h1, h2, h3, h4]
                rw [e1, List.length_append, List.length_take]
                omega
              have hOw := row_touch hown tY (by simp)
              have y0 := bY.cell 0
              have y1 := bY.cell 1
              have y2 := bY.cell 2
              have y3 := bY.cell 3
              have y4 := bY.cell 4
              have HH := Lib.hid (And.intro tQ (And.intro bL (And.intro hne (And.intro hTk (And.intro eL (And.intro tY bY))))))
              obtain ⟨q, hq⟩ : ∃ q, L.length = q := ⟨_, rfl⟩
              rw [hq] at hOw hLl
              have HQ := Lib.hid hq
              clear tQ bL hne hTk eL hown tY bY hq
              go_wp2_with (at_builtin; refine wpList_append_own_at _ rfl _ _ 76 rfl w.heap.size 79 i0 _ 5 40 Tryz.underlying76 hi hz0 hz1 hz2 rfl (by decide) _ _ _ rfl (hOw.alloc _) ⟨wc.heap.size, 0, none⟩ 1 1 (bCells (nm, k, (j : Int) + 1, b1, b2)) rfl rfl ?qc2 (bCells_one _) (by unfold maxLen; omega) (by omega) ?qc6 ?_)
              case qc2 => exact World.news_of_block (heap_alloc_new _ _)
              case qc6 =>
                have h1 := HH.out.1.size
                have h2 := HH.out.2.2.2.2.2.1.size
                simp
                omega
              intro v' w2 hown2 hgrow hnil hloc
              obtain ⟨tQ, bL, hne, hTk, eL, tY, bY⟩ := HH.out
              have tA : Touch [] w (wc.alloc (.cells (bCells (nm, k, (j : Int) + 1, b1, b2)).toArray 79)) := (tQ.trans tY (by simp)).alloc _
              have hbase : ∀ r, u1.ownBlock = some r → w.heap.size ≤ r := fun r hr => (hOw.lt r hr).1
              have HR2 : Hid (InnerRel w lb k (j + 1) v' w2) := Lib.hid ⟨⟨L ++ [(nm, k, (j : Int) + 1, b1, b2)], by
                  rw [List.map_append, eL, hTk, List.append_assoc]; rfl, by
                  have e1 : (L ++ [(nm, k, (j : Int) + 1, b1, b2)]).flatMap bCells = L.flatMap bCells ++ bCells (nm, k, (j : Int) + 1, b1, b2) := by simp
                  have e2 : (L ++ [(nm, k, (j : Int) + 1, b1, b2)]).length = q + 1 := by rw [List.length_append, HQ.out]; rfl
                  rw [e1, e2]; exact hown2⟩,
                tA.grown hgrow (fun r hr => .inr (hbase r hr)),
                ((bL.touch tY (by simp)).alloc _).grown hgrow (fun e => hne lb (rowOf_mem.2 e.symm) rfl), by
                  intro x hx
                  rcases hloc with h | h
                  · exact hne x (rowOf_mem.2 (h ▸ rowOf_mem.1 hx))
                  · have h1 := rowOf_mem.1 hx
                    rw [h] at h1
                    injection h1 with h1
                    have := (bL.touch tY (by simp)).lt
                    omega⟩
              clear hown2 hgrow hnil hloc tQ bL hne hTk eL tY bY tA hbase y0 y1 y2 y3 y4 hOw
              go_wp2_with fail
              go_roundw
              case rel => exact ⟨j + 1, by omega, by go_num, HR2.out⟩
              case measure => simp [intOf]; omega
        · obtain rfl : j = n := by omega
          have HE : Hid (OuterRel w (k + 1) u1 wr) := by
            obtain ⟨hT, tQ, _, _⟩ := hI
            refine Lib.hid ⟨?_, tQ⟩
            rw [preL_succ k hk1 hk4]
            have e := kindL_all k
            rw [HN.out] at e
            rw [e] at hT
            exact hT
          clear hI
          go_wp2_with fail
          go_roundw
          case rel => exact ⟨k + 1, by omega, by omega, by go_num, HE.out⟩
          case measure => simp [intOf]; omega
end En
end Go.Proofs.YtdokeddjcpnmiaaGreatDoor

/- The number of a word of the table (the law's xt). -/
namespace Go.Proofs.YtdokeddjcpnmiaaGreatDoor
open Go.RowKit
namespace En

theorem flat_five (L : List Bt) (k : Nat) (x : Bt) (h : L[k]? = some x) (c : Nat) (hc : c < 5) : (L.flatMap bCells)[k * 5 + c]? = (bCells x)[c]? := by
  induction L generalizing k with
  | nil => cases h
  | cons a t ih =>
    rw [List.flatMap_cons]
    cases k with
    | zero =>
      simp only [List.getElem?_cons_zero, Option.some.injEq] at h
      rw [h, Nat.zero_mul, Nat.zero_add, List.getElem?_append_left (by show c < 5; exact hc)]
    | succ k =>
      rw [List.getElem?_cons_succ] at h
      rw [List.getElem?_append_right (by show 5 ≤ _; omega), show (k + 1) * 5 + c - (bCells a).length = k * 5 + c by show _ - 5 = _; omega]
      exact ih k h
/-- the place of the first row of a name -/
def atName : List (ByteArray × Int × Int) → ByteArray → Option Nat
  | [], _ => none
  | x :: l, s => if x.1 = s then some 0 else (atName l s).map (· + 1)
def XtRel (l : List (ByteArray × Int × Int)) (s : ByteArray) (i k : Nat) : Prop := ∃ d, i = k + d ∧ atName (l.drop k) s = some d
theorem XtRel.start {l : List (ByteArray × Int × Int)} {s : ByteArray} {i : Nat} (h : atName l s = some i) : XtRel l s i 0 := ⟨i, by omega, h⟩
theorem XtRel.row {l : List (ByteArray × Int × Int)} {s : ByteArray} {i k : Nat} (h : XtRel l s i k) : ∃ x, l[k]? = some x ∧ (x.1 = s → i = k) ∧ (x.1 ≠ s → XtRel l s i (k + 1)) := by
  obtain ⟨d, hd, h⟩ := h
  rcases Nat.lt_or_ge k l.length with hk | hk
  · refine ⟨l[k], List.getElem?_eq_getElem hk, ?_, ?_⟩
    · intro hx
      rw [List.drop_eq_getElem_cons hk, atName, if_pos hx] at h
      injection h with h
      omega
    · intro hx
      rw [List.drop_eq_getElem_cons hk, atName, if_neg hx] at h
      cases hh : atName (l.drop (k + 1)) s with
      | none => rw [hh] at h; cases h
      | some e =>
        rw [hh] at h
        simp only [Option.map_some, Option.some.injEq] at h
        exact ⟨e, by omega, hh⟩
  · rw [List.drop_of_length_le hk] at h
    cases h
set_option maxRecDepth 100000 in
set_option maxHeartbeats 3200000 in
theorem xt_any (s : ByteArray) (i : Nat) (h : atName (preL 5) s = some i) (w : World) : Calls Tryz.prog 24 #[.string s] w fun e w' => e = .returned (.int .i64 ((i : Int) + 1)) ∧ Touch [] w w' := by
  have hA := All_rows w
  have h0 := Lib.hid (XtRel.start h)
  clear h
  go_enter Tryz.func24, Tryz.ntmps24
  go_wp2_with fail
  refine hA.mono ?_
  rintro _ w1 ⟨v, rfl, ⟨L, hL, hrow⟩, t1⟩
  obtain ⟨n, hn⟩ : ∃ n, L.length = n := ⟨_, rfl⟩
  have hform : ∃ g c, v = .slice (some ⟨g, 0, none⟩) n c := by
    rcases Go.Joins.ownsRow_forms hrow with ⟨_, hz⟩ | ⟨g, cap, e⟩
    · rw [List.eq_nil_of_length_eq_zero hz] at hL
      obtain ⟨x, hx, _⟩ := h0.out.row
      rw [← hL] at hx
      cases hx
    · exact ⟨g, cap, by rw [e, hn]⟩
  obtain ⟨g, c, rfl⟩ := hform
  have HR := Lib.hid (And.intro hL (And.intro hrow (And.intro t1 hn)))
  have hnb : n ≤ 1000 := by
    rw [← hn]
    have e := congrArg List.length hL
    rw [List.length_map] at e
    rw [e]
    decide
  clear hL hrow t1 hn hA
  go_wp2_with fail
  go_loopw [7] (fun iv wr => ∃ k : Nat, k ≤ n ∧ iv = .int .i64 k ∧ Touch [] w1 wr ∧ XtRel (preL 5) s i k) (fun iv _ => n - (intOf iv).toNat)
  case atStart => exact ⟨0, Nat.zero_le _, rfl, Touch.refl _ _, h0.out⟩
  case round =>
    obtain ⟨k, hk, rfl, tr, hX⟩ := hrel
    obtain ⟨⟨xn, xk, xv⟩, hx, hyes, hno⟩ := hX.row
    have hxL : ∃ y : Bt, L[k]? = some y ∧ y.1 = xn := by
      rw [← HR.out.1, List.getElem?_map] at hx
      cases hy : L[k]? with
      | none => rw [hy] at hx; cases hx
      | some y =>
        rw [hy] at hx
        injection hx with hx
        refine ⟨y, rfl, ?_⟩
        have := congrArg Prod.fst hx
        exact this
    obtain ⟨⟨yn, y1, y2, y3, y4⟩, hy, he⟩ := hxL
    simp only at he
    subst he
    have hlt : k < n := by
      rw [← HR.out.2.2.2]
      exact (List.getElem?_eq_some_iff.1 hy).1
    have hrr := row_touch HR.out.2.1 tr (by simp)
    have hcl : ∀ j u, (L.flatMap bCells)[j]? = some u → wr.cell? ⟨g, j, none⟩ = some u := fun j u hj => by
      have h := hrr.cells (g := g) rfl j u hj
      first
        | exact h
        | (rw [Addr.add_lit, Nat.zero_add] at h; exact h)
    have c0 : wr.cell? ⟨g, k * 5, none⟩ = some (.string yn) := hcl (k * 5) _ ((flat_five L k _ hy 0 (by omega)).trans rfl)
    have c1 : wr.cell? ⟨g, k * 5 + 1, none⟩ = some (.int .i64 y1) := hcl (k * 5 + 1) _ ((flat_five L k _ hy 1 (by omega)).trans rfl)
    have c2 : wr.cell? ⟨g, k * 5 + 2, none⟩ = some (.int .i64 y2) := hcl (k * 5 + 2) _ ((flat_five L k _ hy 2 (by omega)).trans rfl)
    have c3 : wr.cell? ⟨g, k * 5 + 3, none⟩ = some (.bool y3) := hcl (k * 5 + 3) _ ((flat_five L k _ hy 3 (by omega)).trans rfl)
    have c4 : wr.cell? ⟨g, k * 5 + 4, none⟩ = some (.bool y4) := hcl (k * 5 + 4) _ ((flat_five L k _ hy 4 (by omega)).trans rfl)
    have HT := Lib.hid (And.intro tr (And.intro hyes hno))
    clear hcl hrr hX hx hy hyes hno tr h0
    by_cases hs : yn = s
    · have HI : Hid (i = k) := HT.out.2.1 hs
      subst hs
      have t2 := HT.out.1.alloc (.cells #[.string yn, .int .i64 y1, .int .i64 y2, .bool y3, .bool y4] 79)
      have T2 := Lib.hid (HR.out.2.2.1.trans t2 (by simp))
      clear t2
      go_wp2_with fail
      go_ret
      exact ⟨by rw [HI.out]; rfl, T2.out⟩
    · have hs3 : (yn.toList == s.toList) = false := by rw [str_beq]; simpa using hs
      have T2 := Lib.hid (HT.out.1.alloc (.cells #[.string yn, .int .i64 y1, .int .i64 y2, .bool y3, .bool y4] 79))
      have HX := Lib.hid (HT.out.2.2 hs)
      clear hs
      go_wp2_with fail
      go_roundw
      case rel => exact ⟨k + 1, by omega, vint (by omega), T2.out, HX.out⟩
      case measure => simp only [intOf]; omega
end En
end Go.Proofs.YtdokeddjcpnmiaaGreatDoor
