/- Own work (printed by wip/gen_types.py): the types of this seat, as the walk over data asks of them. -/
import Derived.Test.YtlffpgjkhehdmaaDoorProg
import Derived.Test.YtlffpgjkhehdmaaDoorZGB
namespace Go.Proofs.YtlffpgjkhehdmaaDoor
open Go.RowKit

def lookT : List (Nat × TI) → Nat → Option TI
  | [], _ => none
  | (k, i) :: r, t => if k = t then some i else lookT r t
def TabOk (P : Program) : List (Nat × TI) → Prop
  | [] => True
  | (t, i) :: r => ((P.underlying t = some i.desc ∧ (P.info? t).map (fun j => (j.zero, j.size, j.bytes)) = some (some i.zero, i.size, i.bytes)) ∧ (i.cmp = true → P.stoodInHeld t = false ∧ P.eqGuardType P.depth t = false)) ∧ TabOk P r
theorem tok_of {P : Program} : ∀ l : List (Nat × TI), TabOk P l → TOk P (lookT l)
  | [], _, t, i, h => by simp [lookT] at h
  | (k, j) :: r, hh, t, i, h => by
    unfold lookT at h
    split at h
    · rename_i e
      subst e
      cases h
      exact hh.1
    · exact tok_of r hh.2 t i h
def tyTab : List (Nat × TI) := [
  (2, ⟨.int .i64, 1, 8, .int .i64 0, false⟩),
  (3, ⟨.int .i64, 1, 8, .int .i64 0, false⟩),
  (4, ⟨.bool, 1, 1, .bool false, false⟩),
  (5, ⟨.int .u8, 1, 1, .int .u8 0, false⟩),
  (6, ⟨.int .u8, 1, 1, .int .u8 0, false⟩),
  (7, ⟨.struct #[⟨"x", 2, 0, false, "", "runtime", 0⟩, ⟨"y", 3, 1, false, "", "runtime", 8⟩, ⟨"signed", 4, 2, false, "", "runtime", 16⟩, ⟨"code", 6, 3, false, "", "runtime", 17⟩], 4, 24, .agg #[.int .i64 0, .int .i64 0, .bool false, .int .u8 0], false⟩),
  (8, ⟨.struct #[⟨"x", 2, 0, false, "", "runtime", 0⟩, ⟨"y", 3, 1, false, "", "runtime", 8⟩, ⟨"signed", 4, 2, false, "", "runtime", 16⟩, ⟨"code", 6, 3, false, "", "runtime", 17⟩], 4, 24, .agg #[.int .i64 0, .int .i64 0, .bool false, .int .u8 0], false⟩),
  (9, ⟨.string, 1, 16, .string ByteArray.empty, false⟩),
  (10, ⟨.string, 1, 16, .string ByteArray.empty, false⟩),
  (11, ⟨.string, 1, 16, .string ByteArray.empty, false⟩),
  (12, ⟨.int .u64, 1, 8, .int .u64 0, false⟩),
  (13, ⟨.struct #[⟨"msg", 9, 0, false, "", "runtime", 0⟩, ⟨"addr", 12, 1, false, "", "runtime", 16⟩], 2, 24, .agg #[.string ByteArray.empty, .int .u64 0], false⟩),
  (14, ⟨.struct #[⟨"msg", 9, 0, false, "", "runtime", 0⟩, ⟨"addr", 12, 1, false, "", "runtime", 16⟩], 2, 24, .agg #[.string ByteArray.empty, .int .u64 0], false⟩),
  (15, ⟨.pointer 142, 1, 8, .pointer none, false⟩),
  (16, ⟨.pointer 145, 1, 8, .pointer none, false⟩),
  (17, ⟨.pointer 154, 1, 8, .pointer none, false⟩),
  (18, ⟨.struct #[⟨"typ", 17, 0, false, "", "internal/runtime/maps", 0⟩], 1, 8, .agg #[.pointer none], false⟩),
  (19, ⟨.struct #[⟨"typ", 17, 0, false, "", "internal/runtime/maps", 0⟩], 1, 8, .agg #[.pointer none], false⟩),
  (20, ⟨.interface #[], 1, 16, .nilIface, false⟩),
  (21, ⟨.int .i32, 1, 4, .int .i32 0, false⟩),
  (23, ⟨.struct #[⟨"Name", 9, 0, false, "", "", 0⟩, ⟨"Operand", 3, 1, false, "", "", 16⟩, ⟨"Pops", 3, 2, false, "", "", 24⟩, ⟨"Pushes", 3, 3, false, "", "", 32⟩, ⟨"Counted", 4, 4, false, "", "", 40⟩, ⟨"Jumped", 3, 5, false, "", "", 48⟩, ⟨"Ends", 4, 6, false, "", "", 56⟩], 7, 64, .agg #[.string ByteArray.empty, .int .i64 0, .int .i64 0, .int .i64 0, .bool false, .int .i64 0, .bool false], false⟩),
  (24, ⟨.struct #[⟨"Name", 9, 0, false, "", "", 0⟩, ⟨"Operand", 3, 1, false, "", "", 16⟩, ⟨"Pops", 3, 2, false, "", "", 24⟩, ⟨"Pushes", 3, 3, false, "", "", 32⟩, ⟨"Counted", 4, 4, false, "", "", 40⟩, ⟨"Jumped", 3, 5, false, "", "", 48⟩, ⟨"Ends", 4, 6, false, "", "", 56⟩], 7, 64, .agg #[.string ByteArray.empty, .int .i64 0, .int .i64 0, .int .i64 0, .bool false, .int .i64 0, .bool false], true⟩),
  (25, ⟨.int .i64, 1, 8, .int .i64 0, false⟩),
  (28, ⟨.struct #[⟨"Name", 9, 0, false, "", "", 0⟩, ⟨"Operand", 3, 1, false, "", "", 16⟩, ⟨"Pops", 3, 2, false, "", "", 24⟩, ⟨"Pushes", 3, 3, false, "", "", 32⟩, ⟨"Counted", 4, 4, false, "", "", 40⟩, ⟨"Jumped", 3, 5, false, "", "", 48⟩, ⟨"Ends", 4, 6, false, "", "", 56⟩], 7, 64, .agg #[.string ByteArray.empty, .int .i64 0, .int .i64 0, .int .i64 0, .bool false, .int .i64 0, .bool false], true⟩),
  (31, ⟨.slice 50, 1, 24, .slice none 0 0, false⟩),
  (32, ⟨.struct #[⟨"Funcs", 31, 0, false, "", "", 0⟩], 1, 24, .agg #[.slice none 0 0], false⟩),
  (33, ⟨.struct #[⟨"Funcs", 31, 0, false, "", "", 0⟩], 1, 24, .agg #[.slice none 0 0], false⟩),
  (42, ⟨.slice 5, 1, 24, .slice none 0 0, false⟩),
  (43, ⟨.slice 52, 1, 24, .slice none 0 0, false⟩),
  (46, ⟨.slice 54, 1, 24, .slice none 0 0, false⟩),
  (47, ⟨.slice 69, 1, 24, .slice none 0 0, false⟩),
  (48, ⟨.slice 56, 1, 24, .slice none 0 0, false⟩),
  (49, ⟨.struct #[⟨"Name", 9, 0, false, "", "", 0⟩, ⟨"Kind", 3, 1, false, "", "", 16⟩, ⟨"Params", 3, 2, false, "", "", 24⟩, ⟨"Locals", 3, 3, false, "", "", 32⟩, ⟨"Code", 46, 4, false, "", "", 40⟩, ⟨"Consts", 47, 5, false, "", "", 64⟩, ⟨"Handlers", 48, 6, false, "", "", 88⟩], 7, 112, .agg #[.string ByteArray.empty, .int .i64 0, .int .i64 0, .int .i64 0, .slice none 0 0, .slice none 0 0, .slice none 0 0], false⟩),
  (50, ⟨.struct #[⟨"Name", 9, 0, false, "", "", 0⟩, ⟨"Kind", 3, 1, false, "", "", 16⟩, ⟨"Params", 3, 2, false, "", "", 24⟩, ⟨"Locals", 3, 3, false, "", "", 32⟩, ⟨"Code", 46, 4, false, "", "", 40⟩, ⟨"Consts", 47, 5, false, "", "", 64⟩, ⟨"Handlers", 48, 6, false, "", "", 88⟩], 7, 112, .agg #[.string ByteArray.empty, .int .i64 0, .int .i64 0, .int .i64 0, .slice none 0 0, .slice none 0 0, .slice none 0 0], false⟩),
  (51, ⟨.struct #[⟨"Depth", 3, 0, false, "", "", 0⟩, ⟨"Scope", 3, 1, false, "", "", 8⟩], 2, 16, .agg #[.int .i64 0, .int .i64 0], false⟩),
  (52, ⟨.struct #[⟨"Depth", 3, 0, false, "", "", 0⟩, ⟨"Scope", 3, 1, false, "", "", 8⟩], 2, 16, .agg #[.int .i64 0, .int .i64 0], true⟩),
  (53, ⟨.struct #[⟨"Op", 3, 0, false, "", "", 0⟩, ⟨"A", 3, 1, false, "", "", 8⟩, ⟨"B", 3, 2, false, "", "", 16⟩], 3, 24, .agg #[.int .i64 0, .int .i64 0, .int .i64 0], false⟩),
  (54, ⟨.struct #[⟨"Op", 3, 0, false, "", "", 0⟩, ⟨"A", 3, 1, false, "", "", 8⟩, ⟨"B", 3, 2, false, "", "", 16⟩], 3, 24, .agg #[.int .i64 0, .int .i64 0, .int .i64 0], true⟩),
  (55, ⟨.struct #[⟨"From", 3, 0, false, "", "", 0⟩, ⟨"To", 3, 1, false, "", "", 8⟩, ⟨"Target", 3, 2, false, "", "", 16⟩, ⟨"Depth", 3, 3, false, "", "", 24⟩, ⟨"Scope", 3, 4, false, "", "", 32⟩], 5, 40, .agg #[.int .i64 0, .int .i64 0, .int .i64 0, .int .i64 0, .int .i64 0], false⟩),
  (56, ⟨.struct #[⟨"From", 3, 0, false, "", "", 0⟩, ⟨"To", 3, 1, false, "", "", 8⟩, ⟨"Target", 3, 2, false, "", "", 16⟩, ⟨"Depth", 3, 3, false, "", "", 24⟩, ⟨"Scope", 3, 4, false, "", "", 32⟩], 5, 40, .agg #[.int .i64 0, .int .i64 0, .int .i64 0, .int .i64 0, .int .i64 0], true⟩),
  (61, ⟨.slice 46, 1, 24, .slice none 0 0, false⟩),
  (68, ⟨.struct #[⟨"Kind", 3, 0, false, "", "", 0⟩, ⟨"Int", 2, 1, false, "", "", 8⟩, ⟨"Str", 9, 2, false, "", "", 16⟩], 3, 32, .agg #[.int .i64 0, .int .i64 0, .string ByteArray.empty], false⟩),
  (69, ⟨.struct #[⟨"Kind", 3, 0, false, "", "", 0⟩, ⟨"Int", 2, 1, false, "", "", 8⟩, ⟨"Str", 9, 2, false, "", "", 16⟩], 3, 32, .agg #[.int .i64 0, .int .i64 0, .string ByteArray.empty], true⟩),
  (74, ⟨.int .u16, 1, 2, .int .u16 0, false⟩),
  (76, ⟨.slice 9, 1, 24, .slice none 0 0, false⟩),
  (87, ⟨.slice 4, 1, 24, .slice none 0 0, false⟩),
  (89, ⟨.struct #[⟨"Data", 9, 0, false, "", "", 0⟩, ⟨"At", 3, 1, false, "", "", 16⟩, ⟨"Err", 25, 2, false, "", "", 24⟩], 3, 32, .agg #[.string ByteArray.empty, .int .i64 0, .int .i64 0], false⟩),
  (90, ⟨.struct #[⟨"Data", 9, 0, false, "", "", 0⟩, ⟨"At", 3, 1, false, "", "", 16⟩, ⟨"Err", 25, 2, false, "", "", 24⟩], 3, 32, .agg #[.string ByteArray.empty, .int .i64 0, .int .i64 0], true⟩),
  (91, ⟨.struct #[⟨"Reader", 90, 0, true, "", "", 0⟩], 3, 32, .agg #[.string ByteArray.empty, .int .i64 0, .int .i64 0], false⟩),
  (92, ⟨.struct #[⟨"Reader", 90, 0, true, "", "", 0⟩], 3, 32, .agg #[.string ByteArray.empty, .int .i64 0, .int .i64 0], true⟩),
  (96, ⟨.int .u64, 1, 8, .int .u64 0, false⟩),
  (100, ⟨.struct #[⟨"Data", 42, 0, false, "", "", 0⟩], 1, 24, .agg #[.slice none 0 0], false⟩),
  (101, ⟨.struct #[⟨"Data", 42, 0, false, "", "", 0⟩], 1, 24, .agg #[.slice none 0 0], false⟩),
  (102, ⟨.struct #[⟨"Writer", 101, 0, true, "", "", 0⟩], 1, 24, .agg #[.slice none 0 0], false⟩),
  (103, ⟨.struct #[⟨"Writer", 101, 0, true, "", "", 0⟩], 1, 24, .agg #[.slice none 0 0], false⟩),
  (110, ⟨.struct #[], 0, 0, .agg #[], false⟩),
  (111, ⟨.struct #[], 0, 0, .agg #[], true⟩),
  (113, ⟨.slice 3, 1, 24, .slice none 0 0, false⟩),
  (114, ⟨.struct #[⟨"f", 50, 0, false, "", "knapsack/verify", 0⟩, ⟨"shapes", 43, 7, false, "", "knapsack/verify", 112⟩, ⟨"open", 113, 8, false, "", "knapsack/verify", 136⟩], 9, 160, .agg #[.string ByteArray.empty, .int .i64 0, .int .i64 0, .int .i64 0, .slice none 0 0, .slice none 0 0, .slice none 0 0, .slice none 0 0, .slice none 0 0], false⟩),
  (115, ⟨.struct #[⟨"f", 50, 0, false, "", "knapsack/verify", 0⟩, ⟨"shapes", 43, 7, false, "", "knapsack/verify", 112⟩, ⟨"open", 113, 8, false, "", "knapsack/verify", 136⟩], 9, 160, .agg #[.string ByteArray.empty, .int .i64 0, .int .i64 0, .int .i64 0, .slice none 0 0, .slice none 0 0, .slice none 0 0, .slice none 0 0, .slice none 0 0], false⟩),
  (119, ⟨.pointer 90, 1, 8, .pointer none, false⟩),
  (124, ⟨.pointer 92, 1, 8, .pointer none, false⟩),
  (127, ⟨.pointer 101, 1, 8, .pointer none, false⟩),
  (129, ⟨.pointer 103, 1, 8, .pointer none, false⟩),
  (133, ⟨.pointer 115, 1, 8, .pointer none, false⟩),
  (135, ⟨.int .u64, 1, 8, .int .u64 0, false⟩),
  (138, ⟨.struct #[⟨"lo", 5, 0, false, "", "unicode/utf8", 0⟩, ⟨"hi", 5, 1, false, "", "unicode/utf8", 1⟩], 2, 2, .agg #[.int .u8 0, .int .u8 0], false⟩),
  (139, ⟨.struct #[⟨"lo", 5, 0, false, "", "unicode/utf8", 0⟩, ⟨"hi", 5, 1, false, "", "unicode/utf8", 1⟩], 2, 2, .agg #[.int .u8 0, .int .u8 0], false⟩),
  (141, ⟨.struct #[⟨"_interface", 17, 0, false, "", "runtime", 0⟩, ⟨"concrete", 17, 1, false, "", "runtime", 8⟩, ⟨"asserted", 17, 2, false, "", "runtime", 16⟩, ⟨"missingMethod", 9, 3, false, "", "runtime", 24⟩], 4, 40, .agg #[.pointer none, .pointer none, .pointer none, .string ByteArray.empty], false⟩),
  (142, ⟨.struct #[⟨"_interface", 17, 0, false, "", "runtime", 0⟩, ⟨"concrete", 17, 1, false, "", "runtime", 8⟩, ⟨"asserted", 17, 2, false, "", "runtime", 16⟩, ⟨"missingMethod", 9, 3, false, "", "runtime", 24⟩], 4, 40, .agg #[.pointer none, .pointer none, .pointer none, .string ByteArray.empty], false⟩),
  (144, ⟨.struct #[⟨"_", 143, 0, false, "", "runtime", 0⟩], 0, 0, .agg #[], false⟩),
  (145, ⟨.struct #[⟨"_", 143, 0, false, "", "runtime", 0⟩], 0, 0, .agg #[], false⟩),
  (146, ⟨.int .u32, 1, 4, .int .u32 0, false⟩),
  (147, ⟨.int .u8, 1, 1, .int .u8 0, false⟩),
  (148, ⟨.int .u8, 1, 1, .int .u8 0, false⟩),
  (150, ⟨.pointer 5, 1, 8, .pointer none, false⟩),
  (151, ⟨.int .i32, 1, 4, .int .i32 0, false⟩),
  (152, ⟨.int .i32, 1, 4, .int .i32 0, false⟩),
  (153, ⟨.struct #[⟨"Size_", 12, 0, false, "", "", 0⟩, ⟨"PtrBytes", 12, 1, false, "", "", 8⟩, ⟨"Hash", 146, 2, false, "", "", 16⟩, ⟨"TFlag", 147, 3, false, "", "", 20⟩, ⟨"Align_", 5, 4, false, "", "", 21⟩, ⟨"FieldAlign_", 5, 5, false, "", "", 22⟩, ⟨"Kind_", 148, 6, false, "", "", 23⟩, ⟨"Equal", 149, 7, false, "", "", 24⟩, ⟨"GCData", 150, 8, false, "", "", 32⟩, ⟨"Str", 151, 9, false, "", "", 40⟩, ⟨"PtrToThis", 152, 10, false, "", "", 44⟩], 11, 48, .agg #[.int .u64 0, .int .u64 0, .int .u32 0, .int .u8 0, .int .u8 0, .int .u8 0, .int .u8 0, .nilFunc, .pointer none, .int .i32 0, .int .i32 0], false⟩),
  (154, ⟨.struct #[⟨"Size_", 12, 0, false, "", "", 0⟩, ⟨"PtrBytes", 12, 1, false, "", "", 8⟩, ⟨"Hash", 146, 2, false, "", "", 16⟩, ⟨"TFlag", 147, 3, false, "", "", 20⟩, ⟨"Align_", 5, 4, false, "", "", 21⟩, ⟨"FieldAlign_", 5, 5, false, "", "", 22⟩, ⟨"Kind_", 148, 6, false, "", "", 23⟩, ⟨"Equal", 149, 7, false, "", "", 24⟩, ⟨"GCData", 150, 8, false, "", "", 32⟩, ⟨"Str", 151, 9, false, "", "", 40⟩, ⟨"PtrToThis", 152, 10, false, "", "", 44⟩], 11, 48, .agg #[.int .u64 0, .int .u64 0, .int .u32 0, .int .u8 0, .int .u8 0, .int .u8 0, .int .u8 0, .nilFunc, .pointer none, .int .i32 0, .int .i32 0], false⟩),
  (155, ⟨.unsafePointer, 1, 8, .pointer none, false⟩)]
theorem tyTab_ok : TabOk Tryd.prog tyTab := by
  unfold tyTab
  exact ⟨⟨⟨by kernel_rfl, by kernel_rfl⟩, (fun h => by cases h)⟩, ⟨⟨by kernel_rfl, by kernel_rfl⟩, (fun h => by cases h)⟩, ⟨⟨by kernel_rfl, by kernel_rfl⟩, (fun h => by cases h)⟩, ⟨⟨by kernel_rfl, by kernel_rfl⟩, (fun h => by cases h)⟩, ⟨⟨by kernel_rfl, by kernel_rfl⟩, (fun h => by cases h)⟩, ⟨⟨by kernel_rfl, by kernel_rfl⟩, (fun h => by cases h)⟩, ⟨⟨by kernel_rfl, by kernel_rfl⟩, (fun h => by cases h)⟩, ⟨⟨by kernel_rfl, by kernel_rfl⟩, (fun h => by cases h)⟩, ⟨⟨by kernel_rfl, by kernel_rfl⟩, (fun h => by cases h)⟩, ⟨⟨by kernel_rfl, by kernel_rfl⟩, (fun h => by cases h)⟩, ⟨⟨by kernel_rfl, by kernel_rfl⟩, (fun h => by cases h)⟩, ⟨⟨by kernel_rfl, by kernel_rfl⟩, (fun h => by cases h)⟩, ⟨⟨by kernel_rfl, by kernel_rfl⟩, (fun h => by cases h)⟩, ⟨⟨by kernel_rfl, by kernel_rfl⟩, (fun h => by cases h)⟩, ⟨⟨by kernel_rfl, by kernel_rfl⟩, (fun h => by cases h)⟩, ⟨⟨by kernel_rfl, by kernel_rfl⟩, (fun h => by cases h)⟩, ⟨⟨by kernel_rfl, by kernel_rfl⟩, (fun h => by cases h)⟩, ⟨⟨by kernel_rfl, by kernel_rfl⟩, (fun h => by cases h)⟩, ⟨⟨by kernel_rfl, by kernel_rfl⟩, (fun h => by cases h)⟩, ⟨⟨by kernel_rfl, by kernel_rfl⟩, (fun h => by cases h)⟩, ⟨⟨by kernel_rfl, by kernel_rfl⟩, (fun h => by cases h)⟩, ⟨⟨by kernel_rfl, by kernel_rfl⟩, fun _ => ⟨by kernel_rfl, by kernel_rfl⟩⟩, ⟨⟨by kernel_rfl, by kernel_rfl⟩, (fun h => by cases h)⟩, ⟨⟨by kernel_rfl, by kernel_rfl⟩, fun _ => ⟨by kernel_rfl, by kernel_rfl⟩⟩, ⟨⟨by kernel_rfl, by kernel_rfl⟩, (fun h => by cases h)⟩, ⟨⟨by kernel_rfl, by kernel_rfl⟩, (fun h => by cases h)⟩, ⟨⟨by kernel_rfl, by kernel_rfl⟩, (fun h => by cases h)⟩, ⟨⟨by kernel_rfl, by kernel_rfl⟩, (fun h => by cases h)⟩, ⟨⟨by kernel_rfl, by kernel_rfl⟩, (fun h => by cases h)⟩, ⟨⟨by kernel_rfl, by kernel_rfl⟩, (fun h => by cases h)⟩, ⟨⟨by kernel_rfl, by kernel_rfl⟩, (fun h => by cases h)⟩, ⟨⟨by kernel_rfl, by kernel_rfl⟩, (fun h => by cases h)⟩, ⟨⟨by kernel_rfl, by kernel_rfl⟩, (fun h => by cases h)⟩, ⟨⟨by kernel_rfl, by kernel_rfl⟩, (fun h => by cases h)⟩, ⟨⟨by kernel_rfl, by kernel_rfl⟩, (fun h => by cases h)⟩, ⟨⟨by kernel_rfl, by kernel_rfl⟩, fun _ => ⟨by kernel_rfl, by kernel_rfl⟩⟩, ⟨⟨by kernel_rfl, by kernel_rfl⟩, (fun h => by cases h)⟩, ⟨⟨by kernel_rfl, by kernel_rfl⟩, fun _ => ⟨by kernel_rfl, by kernel_rfl⟩⟩, ⟨⟨by kernel_rfl, by kernel_rfl⟩, (fun h => by cases h)⟩, ⟨⟨by kernel_rfl, by kernel_rfl⟩, fun _ => ⟨by kernel_rfl, by kernel_rfl⟩⟩, ⟨⟨by kernel_rfl, by kernel_rfl⟩, (fun h => by cases h)⟩, ⟨⟨by kernel_rfl, by kernel_rfl⟩, (fun h => by cases h)⟩, ⟨⟨by kernel_rfl, by kernel_rfl⟩, fun _ => ⟨by kernel_rfl, by kernel_rfl⟩⟩, ⟨⟨by kernel_rfl, by kernel_rfl⟩, (fun h => by cases h)⟩, ⟨⟨by kernel_rfl, by kernel_rfl⟩, (fun h => by cases h)⟩, ⟨⟨by kernel_rfl, by kernel_rfl⟩, (fun h => by cases h)⟩, ⟨⟨by kernel_rfl, by kernel_rfl⟩, (fun h => by cases h)⟩, ⟨⟨by kernel_rfl, by kernel_rfl⟩, fun _ => ⟨by kernel_rfl, by kernel_rfl⟩⟩, ⟨⟨by kernel_rfl, by kernel_rfl⟩, (fun h => by cases h)⟩, ⟨⟨by kernel_rfl, by kernel_rfl⟩, fun _ => ⟨by kernel_rfl, by kernel_rfl⟩⟩, ⟨⟨by kernel_rfl, by kernel_rfl⟩, (fun h => by cases h)⟩, ⟨⟨by kernel_rfl, by kernel_rfl⟩, (fun h => by cases h)⟩, ⟨⟨by kernel_rfl, by kernel_rfl⟩, (fun h => by cases h)⟩, ⟨⟨by kernel_rfl, by kernel_rfl⟩, (fun h => by cases h)⟩, ⟨⟨by kernel_rfl, by kernel_rfl⟩, (fun h => by cases h)⟩, ⟨⟨by kernel_rfl, by kernel_rfl⟩, (fun h => by cases h)⟩, ⟨⟨by kernel_rfl, by kernel_rfl⟩, fun _ => ⟨by kernel_rfl, by kernel_rfl⟩⟩, ⟨⟨by kernel_rfl, by kernel_rfl⟩, (fun h => by cases h)⟩, ⟨⟨by kernel_rfl, by kernel_rfl⟩, (fun h => by cases h)⟩, ⟨⟨by kernel_rfl, by kernel_rfl⟩, (fun h => by cases h)⟩, ⟨⟨by kernel_rfl, by kernel_rfl⟩, (fun h => by cases h)⟩, ⟨⟨by kernel_rfl, by kernel_rfl⟩, (fun h => by cases h)⟩, ⟨⟨by kernel_rfl, by kernel_rfl⟩, (fun h => by cases h)⟩, ⟨⟨by kernel_rfl, by kernel_rfl⟩, (fun h => by cases h)⟩, ⟨⟨by kernel_rfl, by kernel_rfl⟩, (fun h => by cases h)⟩, ⟨⟨by kernel_rfl, by kernel_rfl⟩, (fun h => by cases h)⟩, ⟨⟨by kernel_rfl, by kernel_rfl⟩, (fun h => by cases h)⟩, ⟨⟨by kernel_rfl, by kernel_rfl⟩, (fun h => by cases h)⟩, ⟨⟨by kernel_rfl, by kernel_rfl⟩, (fun h => by cases h)⟩, ⟨⟨by kernel_rfl, by kernel_rfl⟩, (fun h => by cases h)⟩, ⟨⟨by kernel_rfl, by kernel_rfl⟩, (fun h => by cases h)⟩, ⟨⟨by kernel_rfl, by kernel_rfl⟩, (fun h => by cases h)⟩, ⟨⟨by kernel_rfl, by kernel_rfl⟩, (fun h => by cases h)⟩, ⟨⟨by kernel_rfl, by kernel_rfl⟩, (fun h => by cases h)⟩, ⟨⟨by kernel_rfl, by kernel_rfl⟩, (fun h => by cases h)⟩, ⟨⟨by kernel_rfl, by kernel_rfl⟩, (fun h => by cases h)⟩, ⟨⟨by kernel_rfl, by kernel_rfl⟩, (fun h => by cases h)⟩, ⟨⟨by kernel_rfl, by kernel_rfl⟩, (fun h => by cases h)⟩, ⟨⟨by kernel_rfl, by kernel_rfl⟩, (fun h => by cases h)⟩, ⟨⟨by kernel_rfl, by kernel_rfl⟩, (fun h => by cases h)⟩, ⟨⟨by kernel_rfl, by kernel_rfl⟩, (fun h => by cases h)⟩, trivial⟩
def tyT : TT := lookT tyTab
theorem tyT_ok : TOk Tryd.prog tyT := tok_of _ tyTab_ok
theorem mixed : Tryd.prog.follows .mixedOrders = true := by kernel_rfl
end Go.Proofs.YtlffpgjkhehdmaaDoor

/- Own work: package verify: demand, reach. -/
namespace Go.Proofs.YtlffpgjkhehdmaaDoor
open Go.RowKit
set_option maxRecDepth 100000

abbrev G0 (_ : World) : Prop := True
theorem g0_gr : ∀ w w', Gr w w' → G0 w → G0 w' := fun _ _ _ _ => trivial
abbrev V0 (f : FuncId) (l : List PV) (r : PV) : Prop := Ret Tryd.prog G0 f l r
abbrev VM (f : FuncId) (l : List AV) (H : AH) (r : AV) (K : AH) : Prop := RetM Tryd.prog G0 f l H r K
abbrev pI (n : Int) : PV := .v (.int .i64 n)
abbrev pB (b : Bool) : PV := .v (.bool b)
/-- what demand raises -/
def unsafeCh : List PanicEntry := [{ v := .iface 111 (.agg #[]), recovered := false }]
theorem demand_true : V0 63 [pB true] (.tup []) := by
  refine ret_by tyT_ok g0_gr mixed (fun _ => 0) Tryd.func63 rfl (by kernel_rfl) (by kernel_rfl) rfl fun P G E hc hE => ?_
  cbv
theorem demand_false : V0 63 [pB false] (.pan unsafeCh) := by
  refine ret_by tyT_ok g0_gr mixed (fun _ => 0) Tryd.func63 rfl (by kernel_rfl) (by kernel_rfl) rfl fun P G E hc hE => ?_
  cbv
/-- a walker's blocks: the function's cells, the shapes, the open ones -/
def walkH (q0 q1 q2 q3 q5 q6 : PV) (code sh op : List (List PV)) (n m : Nat) : AH :=
  [some (.box [.p q0, .p q1, .p q2, .p q3, .p (.ro 3 code), .p q5, .p q6, .osl 1 0 n, .osl 2 0 m] 115 none), some (.rows 2 sh 52), some (.rows 1 op 3)]
set_option maxHeartbeats 1000000 in
theorem reach_new (q0 q1 q2 q3 q5 q6 : PV) (code sh op : List (List PV)) (n m : Nat) (i d s d0 s0 : Int) (hi : 0 ≤ i) (hic : i < code.length) (_hn : sh.length = n) (hm : op.length = m) (hnc : n = code.length) (hd : 0 ≤ d ∧ d ≤ 10000) (hs : 0 ≤ s ∧ s ≤ 1000) (hrow : sh[i.toNat]? = some [pI d0, pI s0]) (hneg : d0 < 0) (hm2 : m ≤ 100000) :
    VM 64 [.own 0 0, .p (pI i), .p (.agg [pI d, pI s])] (walkH q0 q1 q2 q3 q5 q6 code sh op n m) (.p (.tup [])) (walkH q0 q1 q2 q3 q5 q6 code (sh.set i.toNat [pI d, pI s]) (op ++ [[pI i]]) n (m + 1)) := by
  have dt := demand_true
  unfold walkH
  obtain ⟨sh', hsh⟩ : ∃ x, sh.set i.toNat [pI d, pI s] = x := ⟨_, rfl⟩
  obtain ⟨op', hop⟩ : ∃ x, op ++ [[pI i]] = x := ⟨_, rfl⟩
  obtain ⟨m', hm'⟩ : ∃ x, m + 1 = x := ⟨_, rfl⟩
  rw [hsh, hop, hm']
  refine retm_by tyT_ok mixed (fun n => match n with | 3 => 7 | 5 => 9 | _ => 0) Tryd.func64 rfl (by kernel_rfl) (by kernel_rfl) rfl fun P G E hc hM hE => ?_
  intro t0 t1 t2
  replace dt := hc _ _ _ dt
  have c1 : E.lti i (E.ofN code.length) = true := by rw [hE]; exact decide_eq_true hic
  have c2 : E.lei 0 d = true := by rw [hE]; exact decide_eq_true hd.1
  have c3 : E.lei d 10000 = true := by rw [hE]; exact decide_eq_true hd.2
  have c4 : E.lei 0 s = true := by rw [hE]; exact decide_eq_true hs.1
  have c5 : E.lei s 1000 = true := by rw [hE]; exact decide_eq_true hs.2
  have c6 : E.lti d0 0 = true := by rw [hE]; exact decide_eq_true hneg
  have p1 : E.ple 0 i := by rw [hE]; exact hi
  have p2 : E.plt i (E.ofN n) := by rw [hE]; show i < (n : Int); omega
  have p3 : E.pre 0 m op := by rw [hE]; show 0 + m ≤ op.length; omega
  have a1 : E.addN 0 (E.nat i) = i.toNat := by rw [hE]; exact Nat.zero_add _
  have a2 : E.addN m 1 = m' := by rw [hE]; exact hm'
  have p4 : E.room m 1 8 := by rw [hE]; exact ⟨by unfold maxLen; omega, by omega⟩
  have r1 : sh[E.addN 0 (E.nat i)]? = some [pI d0, pI s0] := by rw [a1]; exact hrow
  have r2 : E.put sh (E.addN 0 (E.nat i)) [pI d, pI s] = sh' := by rw [a1, hE]; exact hsh
  have r0 : E.sub [[pI i]] 0 1 = [[pI i]] := by rw [hE]; rfl
  have p0 : E.pre 0 1 [[pI i]] := by rw [hE]; show 0 + 1 ≤ 1; omega
  have r3 : E.app op m [[pI i]] = op' := by rw [hE]; show op.take m ++ _ = _; rw [← hm, List.take_length]; exact hop
  cbv at c1
  cbv
  repeat (first | (simp only [c1]; cbv) | (simp only [c2]; cbv) | (simp only [c3]; cbv) | (simp only [c4]; cbv) | (simp only [c5]; cbv) | (refine ⟨_, dt, ?_⟩; cbv) | (refine ⟨p1, p2, ?_⟩; cbv) | (refine ⟨_, r1, ?_⟩; cbv) | (simp only [c6]; cbv) | (refine ⟨p3, p4, ?_⟩; cbv))
  refine ⟨p0, p3, p4, ?_⟩
  simp only [r0, r2, r3, a2]
  exact ⟨trivial, trivial⟩
def panH : AH := [none, none, none]
set_option maxHeartbeats 1000000 in
/-- a place or a shape that cannot be -/
theorem reach_out (q0 q1 q2 q3 q5 q6 : PV) (code sh op : List (List PV)) (n m : Nat) (i d s : Int) (hbad : ¬ (i < code.length ∧ (0 ≤ d ∧ d ≤ 10000) ∧ 0 ≤ s ∧ s ≤ 1000)) :
    VM 64 [.own 0 0, .p (pI i), .p (.agg [pI d, pI s])] (walkH q0 q1 q2 q3 q5 q6 code sh op n m) (.p (.pan unsafeCh)) panH := by
  have df := demand_false
  have hcase : (i < (code.length : Int) ∧ 0 ≤ d ∧ d ≤ 10000 ∧ 0 ≤ s ∧ ¬ s ≤ 1000) ∨ (i < (code.length : Int) ∧ 0 ≤ d ∧ d ≤ 10000 ∧ ¬ 0 ≤ s) ∨ (i < (code.length : Int) ∧ 0 ≤ d ∧ ¬ d ≤ 10000) ∨ (i < (code.length : Int) ∧ ¬ 0 ≤ d) ∨ ¬ i < (code.length : Int) := by omega
  clear hbad
  unfold walkH panH
  rcases hcase with ⟨h1, h2, h3, h4, h5⟩ | ⟨h1, h2, h3, h4⟩ | ⟨h1, h2, h3⟩ | ⟨h1, h2⟩ | h1
  · refine retm_by tyT_ok mixed (fun n => match n with | 3 => 7 | 5 => 9 | _ => 0) Tryd.func64 rfl (by kernel_rfl) (by kernel_rfl) rfl fun P G E hc hM hE => ?_
    intro t0 t1 t2
    replace df := hc _ _ _ df
    have c1 : E.lti i (E.ofN code.length) = true := by rw [hE]; exact decide_eq_true h1
    have c2 : E.lei 0 d = true := by rw [hE]; exact decide_eq_true h2
    have c3 : E.lei d 10000 = true := by rw [hE]; exact decide_eq_true h3
    have c4 : E.lei 0 s = true := by rw [hE]; exact decide_eq_true h4
    have c5 : E.lei s 1000 = false := by rw [hE]; exact decide_eq_false h5
    cbv at c1
    cbv
    repeat (first | (simp only [c1]; cbv) | simp only [c1] | (simp only [c2]; cbv) | simp only [c2] | (simp only [c3]; cbv) | simp only [c3] | (simp only [c4]; cbv) | simp only [c4] | (simp only [c5]; cbv) | simp only [c5] | (refine ⟨_, df, ?_⟩; cbv))
  · refine retm_by tyT_ok mixed (fun n => match n with | 3 => 7 | 5 => 9 | _ => 0) Tryd.func64 rfl (by kernel_rfl) (by kernel_rfl) rfl fun P G E hc hM hE => ?_
    intro t0 t1 t2
    replace df := hc _ _ _ df
    have c1 : E.lti i (E.ofN code.length) = true := by rw [hE]; exact decide_eq_true h1
    have c2 : E.lei 0 d = true := by rw [hE]; exact decide_eq_true h2
    have c3 : E.lei d 10000 = true := by rw [hE]; exact decide_eq_true h3
    have c4 : E.lei 0 s = false := by rw [hE]; exact decide_eq_false h4
    cbv at c1
    cbv
    repeat (first | (simp only [c1]; cbv) | simp only [c1] | (simp only [c2]; cbv) | simp only [c2] | (simp only [c3]; cbv) | simp only [c3] | (simp only [c4]; cbv) | simp only [c4] | (refine ⟨_, df, ?_⟩; cbv))
  · refine retm_by tyT_ok mixed (fun n => match n with | 3 => 7 | 5 => 9 | _ => 0) Tryd.func64 rfl (by kernel_rfl) (by kernel_rfl) rfl fun P G E hc hM hE => ?_
    intro t0 t1 t2
    replace df := hc _ _ _ df
    have c1 : E.lti i (E.ofN code.length) = true := by rw [hE]; exact decide_eq_true h1
    have c2 : E.lei 0 d = true := by rw [hE]; exact decide_eq_true h2
    have c3 : E.lei d 10000 = false := by rw [hE]; exact decide_eq_false h3
    cbv at c1
    cbv
    repeat (first | (simp only [c1]; cbv) | simp only [c1] | (simp only [c2]; cbv) | simp only [c2] | (simp only [c3]; cbv) | simp only [c3] | (refine ⟨_, df, ?_⟩; cbv))
  · refine retm_by tyT_ok mixed (fun n => match n with | 3 => 7 | 5 => 9 | _ => 0) Tryd.func64 rfl (by kernel_rfl) (by kernel_rfl) rfl fun P G E hc hM hE => ?_
    intro t0 t1 t2
    replace df := hc _ _ _ df
    have c1 : E.lti i (E.ofN code.length) = true := by rw [hE]; exact decide_eq_true h1
    have c2 : E.lei 0 d = false := by rw [hE]; exact decide_eq_false h2
    cbv at c1
    cbv
    repeat (first | (simp only [c1]; cbv) | simp only [c1] | (simp only [c2]; cbv) | simp only [c2] | (refine ⟨_, df, ?_⟩; cbv))
  · refine retm_by tyT_ok mixed (fun n => match n with | 3 => 7 | 5 => 9 | _ => 0) Tryd.func64 rfl (by kernel_rfl) (by kernel_rfl) rfl fun P G E hc hM hE => ?_
    intro t0 t1 t2
    replace df := hc _ _ _ df
    have c1 : E.lti i (E.ofN code.length) = false := by rw [hE]; exact decide_eq_false h1
    cbv at c1
    cbv
    repeat (first | (simp only [c1]; cbv) | simp only [c1] | (refine ⟨_, df, ?_⟩; cbv))
set_option maxHeartbeats 1000000 in
/-- an instruction that has been reached before -/
theorem reach_old (q0 q1 q2 q3 q5 q6 : PV) (code sh op : List (List PV)) (n m : Nat) (i d s d0 s0 : Int) (hi : 0 ≤ i) (hic : i < code.length) (_hn : sh.length = n) (hnc : n = code.length) (hd : 0 ≤ d ∧ d ≤ 10000) (hs : 0 ≤ s ∧ s ≤ 1000) (hrow : sh[i.toNat]? = some [pI d0, pI s0]) (hneg : ¬ d0 < 0) (x y : Bool) (hx : decide (d0 = d) = x) (hy : decide (s0 = s) = y) :
    VM 64 [.own 0 0, .p (pI i), .p (.agg [pI d, pI s])] (walkH q0 q1 q2 q3 q5 q6 code sh op n m) (.p (if x && y then .tup [] else .pan unsafeCh)) (if x && y then walkH q0 q1 q2 q3 q5 q6 code sh op n m else panH) := by
  have dt := demand_true
  have df := demand_false
  unfold walkH panH
  cases x <;> cases y
  all_goals (
    simp only [Bool.and_true, Bool.and_false, Bool.false_eq_true, if_true, if_false]
    refine retm_by tyT_ok mixed (fun n => match n with | 3 => 7 | 5 => 9 | _ => 0) Tryd.func64 rfl (by kernel_rfl) (by kernel_rfl) rfl fun P G E hc hM hE => ?_
    intro t0 t1 t2
    replace dt := hc _ _ _ dt
    replace df := hc _ _ _ df
    have c1 : E.lti i (E.ofN code.length) = true := by rw [hE]; exact decide_eq_true hic
    have c2 : E.lei 0 d = true := by rw [hE]; exact decide_eq_true hd.1
    have c3 : E.lei d 10000 = true := by rw [hE]; exact decide_eq_true hd.2
    have c4 : E.lei 0 s = true := by rw [hE]; exact decide_eq_true hs.1
    have c5 : E.lei s 1000 = true := by rw [hE]; exact decide_eq_true hs.2
    have c6 : E.lti d0 0 = false := by rw [hE]; exact decide_eq_false hneg
    have p1 : E.ple 0 i := by rw [hE]; exact hi
    have p2 : E.plt i (E.ofN n) := by rw [hE]; show i < (n : Int); omega
    have r1 : sh[E.addN 0 (E.nat i)]? = some [pI d0, pI s0] := by rw [show E.addN 0 (E.nat i) = i.toNat by rw [hE]; exact Nat.zero_add _]; exact hrow
    cbv at c1
    cbv
    repeat (first | (simp only [c1]; cbv) | (simp only [c2]; cbv) | (simp only [c3]; cbv) | (simp only [c4]; cbv) | (simp only [c5]; cbv) | (refine ⟨_, dt, ?_⟩; cbv) | (refine ⟨_, df, ?_⟩; cbv) | (refine ⟨p1, p2, ?_⟩; cbv) | (refine ⟨_, r1, ?_⟩; cbv) | (simp only [c6]; cbv) | (simp only [hx]; cbv) | (simp only [hy]; cbv) | (simp only [hx, hy]; cbv)))
end Go.Proofs.YtlffpgjkhehdmaaDoor

/- Own work: package verify: reach, as a function of the shapes and the open instructions. -/
namespace Go.Proofs.YtlffpgjkhehdmaaDoor
open Go.RowKit
set_option maxRecDepth 100000

/-- a shape: depth and scope -/
abbrev Shp := Int × Int
/-- the shapes, and the instructions that are to be visited -/
structure WS2 where
  sh : List Shp
  op : List Int
def pSh (l : List Shp) : List (List PV) := l.map fun p => [pI p.1, pI p.2]
def pOp (l : List Int) : List (List PV) := l.map fun i => [pI i]
/-- the function that is walked through -/
structure WF where
  q0 : PV
  q1 : PV
  q2 : PV
  q3 : PV
  q5 : PV
  q6 : PV
  code : List (List PV)
def walkS (f : WF) (st : WS2) : AH := walkH f.q0 f.q1 f.q2 f.q3 f.q5 f.q6 f.code (pSh st.sh) (pOp st.op) st.sh.length st.op.length
def reachP (st : WS2) (i : Int) (p : Shp) : Option WS2 :=
  if i < st.sh.length ∧ (0 ≤ p.1 ∧ p.1 ≤ 10000) ∧ 0 ≤ p.2 ∧ p.2 ≤ 1000 then
    (match st.sh[i.toNat]? with
    | some q => if q.1 < 0 then some ⟨st.sh.set i.toNat p, st.op ++ [i]⟩ else if q = p then some st else none
    | none => none)
  else none
def resR : Option WS2 → AV
  | some _ => .p (.tup [])
  | none => .p (.pan unsafeCh)
def resH (f : WF) : Option WS2 → AH
  | some st => walkS f st
  | none => panH
theorem pSh_get {l : List Shp} {i : Nat} {p : Shp} (h : l[i]? = some p) : (pSh l)[i]? = some [pI p.1, pI p.2] := by
  unfold pSh; rw [List.getElem?_map, h]; rfl
theorem reach_ret (f : WF) (st : WS2) (hl : f.code.length = st.sh.length) (ho : st.op.length ≤ 100000) (i : Int) (hi : 0 ≤ i) (p : Shp) :
    VM 64 [.own 0 0, .p (pI i), .p (.agg [pI p.1, pI p.2])] (walkS f st) (resR (reachP st i p)) (resH f (reachP st i p)) := by
  obtain ⟨sh, op⟩ := st
  obtain ⟨d, s⟩ := p
  simp only at hl ho
  unfold reachP walkS
  simp only
  by_cases hok : i < (sh.length : Int) ∧ (0 ≤ d ∧ d ≤ 10000) ∧ 0 ≤ s ∧ s ≤ 1000
  · rw [if_pos hok]
    have hil : i.toNat < sh.length := by omega
    obtain ⟨q, hq⟩ : ∃ q, sh[i.toNat]? = some q := ⟨_, List.getElem?_eq_getElem hil⟩
    obtain ⟨d0, s0⟩ := q
    have hrow := pSh_get hq
    simp only [hq]
    by_cases hneg : d0 < 0
    · rw [if_pos hneg]
      have h := reach_new f.q0 f.q1 f.q2 f.q3 f.q5 f.q6 f.code (pSh sh) (pOp op) sh.length op.length i d s d0 s0 hi (by omega) (by simp [pSh]) (by simp [pOp]) hl.symm hok.2.1 hok.2.2 hrow hneg ho
      have e1 : (pSh sh).set i.toNat [pI d, pI s] = pSh (sh.set i.toNat (d, s)) := by unfold pSh; rw [List.map_set]
      have e2 : pOp op ++ [[pI i]] = pOp (op ++ [i]) := by unfold pOp; rw [List.map_append]; rfl
      rw [e1, e2] at h
      simp only [resR, resH, walkS, List.length_set, List.length_append, List.length_singleton]
      exact h
    · rw [if_neg hneg]
      have h := reach_old f.q0 f.q1 f.q2 f.q3 f.q5 f.q6 f.code (pSh sh) (pOp op) sh.length op.length i d s d0 s0 hi (by omega) (by simp [pSh]) hl.symm hok.2.1 hok.2.2 hrow hneg (decide (d0 = d)) (decide (s0 = s)) rfl rfl
      by_cases he : (d0, s0) = (d, s)
      · rw [if_pos he]
        obtain ⟨rfl, rfl⟩ := Prod.mk.inj he
        simpa [resR, resH, walkS] using h
      · rw [if_neg he]
        have : (decide (d0 = d) && decide (s0 = s)) = false := by
          simp only [Prod.mk.injEq] at he
          simpa using he
        rw [this] at h
        simpa [resR, resH] using h
  · rw [if_neg hok]
    exact reach_out f.q0 f.q1 f.q2 f.q3 f.q5 f.q6 f.code (pSh sh) (pOp op) sh.length op.length i d s (by rw [hl]; exact hok)
end Go.Proofs.YtlffpgjkhehdmaaDoor
