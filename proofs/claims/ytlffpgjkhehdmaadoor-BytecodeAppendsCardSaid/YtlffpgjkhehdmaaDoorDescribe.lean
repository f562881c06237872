/- DERIVED, own work: bytecode.names and bytecode.Describe. -/
import Derived.Test.YtlffpgjkhehdmaaDoorLeaf
import Derived.Deep.RegionWith
import Derived.Deep.RegionHeld3
import Derived.Deep.DrawnRows
import Derived.Below
namespace Go.Proofs.YtlffpgjkhehdmaaDoor
open Go.RowKit
attribute [local go_sem ↓] Go.wp_at_zero Go.wp_at_succ

/-- the names of the operations, as bytes -/
def nameBytes : List (List UInt8) := [[], [76, 111, 97, 100], [85, 110, 100, 101, 102], [78, 117, 108, 108], [84, 114, 117, 101], [70, 97, 108, 115, 101], [84, 104, 105, 115], [80, 111, 112], [68, 117, 112], [80, 97, 105, 114], [83, 119, 97, 112], [84, 117, 114, 110], [76, 111, 99, 97, 108], [83, 101, 116, 76, 111, 99, 97, 108], [73, 110, 105, 116, 76, 111, 99, 97, 108], [67, 108, 101, 97, 114, 76, 111, 99, 97, 108], [69, 110, 118, 71, 101, 116], [69, 110, 118, 83, 101, 116], [69, 110, 118, 73, 110, 105, 116], [80, 117, 115, 104, 69, 110, 118], [80, 111, 112, 69, 110, 118], [67, 111, 112, 121, 69, 110, 118], [71, 108, 111, 98, 97, 108], [83, 101, 116, 71, 108, 111, 98, 97, 108], [68, 101, 102, 71, 108, 111, 98, 97, 108], [84, 121, 112, 101, 71, 108, 111, 98, 97, 108], [71, 101, 116, 80, 114, 111, 112], [83, 101, 116, 80, 114, 111, 112], [68, 101, 108, 80, 114, 111, 112], [71, 101, 116, 73, 110, 100, 101, 120], [83, 101, 116, 73, 110, 100, 101, 120], [68, 101, 108, 73, 110, 100, 101, 120], [78, 101, 119, 79, 98, 106, 101, 99, 116], [78, 101, 119, 65, 114, 114, 97, 121], [70, 105, 101, 108, 100], [70, 105, 101, 108, 100, 65, 116], [80, 117, 115, 104], [67, 108, 111, 115, 117, 114, 101], [85, 110, 97, 114, 121], [66, 105, 110, 97, 114, 121], [74, 117, 109, 112], [73, 102, 70, 97, 108, 115, 101], [73, 102, 84, 114, 117, 101], [65, 110, 100, 74, 117, 109, 112], [79, 114, 74, 117, 109, 112], [78, 117, 108, 108, 74, 117, 109, 112], [67, 97, 108, 108], [78, 101, 119], [82, 101, 116, 117, 114, 110], [84, 104, 114, 111, 119], [73, 116, 101, 114], [78, 101, 120, 116], [89, 105, 101, 108, 100], [65, 119, 97, 105, 116]]
def nameOf (op : Int) : ByteArray := ⟨(nameBytes.getD op.toNat []).toArray⟩
def nameCells : Array Value := (nameBytes.map fun l => Value.string ⟨l.toArray⟩).toArray

theorem nameCells_at (op : Int) (h0 : 0 ≤ op) (h1 : op ≤ 53) : nameCells[op.toNat]? = some (.string (nameOf op)) := by
  obtain ⟨n, rfl⟩ := Int.eq_ofNat_of_zero_le h0
  have hn : n < nameBytes.length := by have : nameBytes.length = 54 := by rfl
                                       omega
  simp only [Int.toNat_natCast, nameCells, nameOf, List.getElem?_toArray, List.getElem?_map, List.getD_eq_getElem?_getD, List.getElem?_eq_getElem hn, Option.map_some, Option.getD_some]

theorem names_any (w : World) :
    Calls Tryd.prog 37 #[] w fun e w' => e = .returned (.slice (some ⟨w.heap.size, 0, none⟩) 54 54) ∧ w' = w.alloc (.cells nameCells 9) := by
  go_enter Tryd.func37, Tryd.ntmps37
  go_wp2
  go_ret
  refine ⟨rfl, ?_⟩
  rfl

end Go.Proofs.YtlffpgjkhehdmaaDoor
