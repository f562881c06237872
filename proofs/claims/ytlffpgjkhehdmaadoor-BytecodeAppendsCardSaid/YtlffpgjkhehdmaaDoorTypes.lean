/- Own work (printed by wip/gen_types.py): the types of this seat, as the walk over data asks of them. -/
import Derived.Test.YtlffpgjkhehdmaaDoorProg
import Derived.Test.YtlffpgjkhehdmaaDoorAbsH
namespace Go.Proofs.YtlffpgjkhehdmaaDoor
open Go.RowKit

def lookT : List (Nat × TI) → Nat → Option TI
  | [], _ => none
  | (k, i) :: r, t => if k = t then some i else lookT r t
def TabOk (P : Program) : List (Nat × TI) → Prop
  | [] => True
  | (t, i) :: r => ((P.underlying t = some i.desc ∧ (P.info? t).map (fun j => (j.zero, j.size, j.bytes)) = some (some i.zero, i.size, i.bytes)) ∧ (i.cmp = true → P.stoodInHeld t = false ∧ P.eqGuardType P.depth t = false)) ∧ TabOk P r
theorem tok_of {P : Program} : ∀ l : List (Nat × TI), TabOk P l → TOk P (lookT l)
  | [], _, t, i, h => by simp [lookT] at h
  | (k, j) :: r, hh, t, i, h => by
    unfold lookT at h
    split at h
    · rename_i e
      subst e
      cases h
      exact hh.1
    · exact tok_of r hh.2 t i h
def tyTab : List (Nat × TI) := [
  (2, ⟨.int .i64, 1, 8, .int .i64 0, false⟩),
  (3, ⟨.int .i64, 1, 8, .int .i64 0, false⟩),
  (4, ⟨.bool, 1, 1, .bool false, false⟩),
  (5, ⟨.int .u8, 1, 1, .int .u8 0, false⟩),
  (6, ⟨.int .u8, 1, 1, .int .u8 0, false⟩),
  (7, ⟨.struct #[⟨"x", 2, 0, false, "", "runtime", 0⟩, ⟨"y", 3, 1, false, "", "runtime", 8⟩, ⟨"signed", 4, 2, false, "", "runtime", 16⟩, ⟨"code", 6, 3, false, "", "runtime", 17⟩], 4, 24, .agg #[.int .i64 0, .int .i64 0, .bool false, .int .u8 0], false⟩),
  (8, ⟨.struct #[⟨"x", 2, 0, false, "", "runtime", 0⟩, ⟨"y", 3, 1, false, "", "runtime", 8⟩, ⟨"signed", 4, 2, false, "", "runtime", 16⟩, ⟨"code", 6, 3, false, "", "runtime", 17⟩], 4, 24, .agg #[.int .i64 0, .int .i64 0, .bool false, .int .u8 0], false⟩),
  (9, ⟨.string, 1, 16, .string ByteArray.empty, false⟩),
  (10, ⟨.string, 1, 16, .string ByteArray.empty, false⟩),
  (11, ⟨.string, 1, 16, .string ByteArray.empty, false⟩),
  (12, ⟨.int .u64, 1, 8, .int .u64 0, false⟩),
  (13, ⟨.struct #[⟨"msg", 9, 0, false, "", "runtime", 0⟩, ⟨"addr", 12, 1, false, "", "runtime", 16⟩], 2, 24, .agg #[.string ByteArray.empty, .int .u64 0], false⟩),
  (14, ⟨.struct #[⟨"msg", 9, 0, false, "", "runtime", 0⟩, ⟨"addr", 12, 1, false, "", "runtime", 16⟩], 2, 24, .agg #[.string ByteArray.empty, .int .u64 0], false⟩),
  (15, ⟨.pointer 142, 1, 8, .pointer none, false⟩),
  (16, ⟨.pointer 145, 1, 8, .pointer none, false⟩),
  (17, ⟨.pointer 154, 1, 8, .pointer none, false⟩),
  (18, ⟨.struct #[⟨"typ", 17, 0, false, "", "internal/runtime/maps", 0⟩], 1, 8, .agg #[.pointer none], false⟩),
  (19, ⟨.struct #[⟨"typ", 17, 0, false, "", "internal/runtime/maps", 0⟩], 1, 8, .agg #[.pointer none], false⟩),
  (20, ⟨.interface #[], 1, 16, .nilIface, false⟩),
  (21, ⟨.int .i32, 1, 4, .int .i32 0, false⟩),
  (23, ⟨.struct #[⟨"Name", 9, 0, false, "", "", 0⟩, ⟨"Operand", 3, 1, false, "", "", 16⟩, ⟨"Pops", 3, 2, false, "", "", 24⟩, ⟨"Pushes", 3, 3, false, "", "", 32⟩, ⟨"Counted", 4, 4, false, "", "", 40⟩, ⟨"Jumped", 3, 5, false, "", "", 48⟩, ⟨"Ends", 4, 6, false, "", "", 56⟩], 7, 64, .agg #[.string ByteArray.empty, .int .i64 0, .int .i64 0, .int .i64 0, .bool false, .int .i64 0, .bool false], false⟩),
  (24, ⟨.struct #[⟨"Name", 9, 0, false, "", "", 0⟩, ⟨"Operand", 3, 1, false, "", "", 16⟩, ⟨"Pops", 3, 2, false, "", "", 24⟩, ⟨"Pushes", 3, 3, false, "", "", 32⟩, ⟨"Counted", 4, 4, false, "", "", 40⟩, ⟨"Jumped", 3, 5, false, "", "", 48⟩, ⟨"Ends", 4, 6, false, "", "", 56⟩], 7, 64, .agg #[.string ByteArray.empty, .int .i64 0, .int .i64 0, .int .i64 0, .bool false, .int .i64 0, .bool false], true⟩),
  (25, ⟨.int .i64, 1, 8, .int .i64 0, false⟩),
  (28, ⟨.struct #[⟨"Name", 9, 0, false, "", "", 0⟩, ⟨"Operand", 3, 1, false, "", "", 16⟩, ⟨"Pops", 3, 2, false, "", "", 24⟩, ⟨"Pushes", 3, 3, false, "", "", 32⟩, ⟨"Counted", 4, 4, false, "", "", 40⟩, ⟨"Jumped", 3, 5, false, "", "", 48⟩, ⟨"Ends", 4, 6, false, "", "", 56⟩], 7, 64, .agg #[.string ByteArray.empty, .int .i64 0, .int .i64 0, .int .i64 0, .bool false, .int .i64 0, .bool false], true⟩),
  (31, ⟨.slice 50, 1, 24, .slice none 0 0, false⟩),
  (32, ⟨.struct #[⟨"Funcs", 31, 0, false, "", "", 0⟩], 1, 24, .agg #[.slice none 0 0], false⟩),
  (33, ⟨.struct #[⟨"Funcs", 31, 0, false, "", "", 0⟩], 1, 24, .agg #[.slice none 0 0], false⟩),
  (42, ⟨.slice 5, 1, 24, .slice none 0 0, false⟩),
  (43, ⟨.slice 52, 1, 24, .slice none 0 0, false⟩),
  (46, ⟨.slice 54, 1, 24, .slice none 0 0, false⟩),
  (47, ⟨.slice 69, 1, 24, .slice none 0 0, false⟩),
  (48, ⟨.slice 56, 1, 24, .slice none 0 0, false⟩),
  (49, ⟨.struct #[⟨"Name", 9, 0, false, "", "", 0⟩, ⟨"Kind", 3, 1, false, "", "", 16⟩, ⟨"Params", 3, 2, false, "", "", 24⟩, ⟨"Locals", 3, 3, false, "", "", 32⟩, ⟨"Code", 46, 4, false, "", "", 40⟩, ⟨"Consts", 47, 5, false, "", "", 64⟩, ⟨"Handlers", 48, 6, false, "", "", 88⟩], 7, 112, .agg #[.string ByteArray.empty, .int .i64 0, .int .i64 0, .int .i64 0, .slice none 0 0, .slice none 0 0, .slice none 0 0], false⟩),
  (50, ⟨.struct #[⟨"Name", 9, 0, false, "", "", 0⟩, ⟨"Kind", 3, 1, false, "", "", 16⟩, ⟨"Params", 3, 2, false, "", "", 24⟩, ⟨"Locals", 3, 3, false, "", "", 32⟩, ⟨"Code", 46, 4, false, "", "", 40⟩, ⟨"Consts", 47, 5, false, "", "", 64⟩, ⟨"Handlers", 48, 6, false, "", "", 88⟩], 7, 112, .agg #[.string ByteArray.empty, .int .i64 0, .int .i64 0, .int .i64 0, .slice none 0 0, .slice none 0 0, .slice none 0 0], false⟩),
  (51, ⟨.struct #[⟨"Depth", 3, 0, false, "", "", 0⟩, ⟨"Scope", 3, 1, false, "", "", 8⟩], 2, 16, .agg #[.int .i64 0, .int .i64 0], false⟩),
  (52, ⟨.struct #[⟨"Depth", 3, 0, false, "", "", 0⟩, ⟨"Scope", 3, 1, false, "", "", 8⟩], 2, 16, .agg #[.int .i64 0, .int .i64 0], true⟩),
  (53, ⟨.struct #[⟨"Op", 3, 0, false, "", "", 0⟩, ⟨"A", 3, 1, false, "", "", 8⟩, ⟨"B", 3, 2, false, "", "", 16⟩], 3, 24, .agg #[.int .i64 0, .int .i64 0, .int .i64 0], false⟩),
  (54, ⟨.struct #[⟨"Op", 3, 0, false, "", "", 0⟩, ⟨"A", 3, 1, false, "", "", 8⟩, ⟨"B", 3, 2, false, "", "", 16⟩], 3, 24, .agg #[.int .i64 0, .int .i64 0, .int .i64 0], true⟩),
  (55, ⟨.struct #[⟨"From", 3, 0, false, "", "", 0⟩, ⟨"To", 3, 1, false, "", "", 8⟩, ⟨"Target", 3, 2, false, "", "", 16⟩, ⟨"Depth", 3, 3, false, "", "", 24⟩, ⟨"Scope", 3, 4, false, "", "", 32⟩], 5, 40, .agg #[.int .i64 0, .int .i64 0, .int .i64 0, .int .i64 0, .int .i64 0], false⟩),
  (56, ⟨.struct #[⟨"From", 3, 0, false, "", "", 0⟩, ⟨"To", 3, 1, false, "", "", 8⟩, ⟨"Target", 3, 2, false, "", "", 16⟩, ⟨"Depth", 3, 3, false, "", "", 24⟩, ⟨"Scope", 3, 4, false, "", "", 32⟩], 5, 40, .agg #[.int .i64 0, .int .i64 0, .int .i64 0, .int .i64 0, .int .i64 0], true⟩),
  (61, ⟨.slice 46, 1, 24, .slice none 0 0, false⟩),
  (68, ⟨.struct #[⟨"Kind", 3, 0, false, "", "", 0⟩, ⟨"Int", 2, 1, false, "", "", 8⟩, ⟨"Str", 9, 2, false, "", "", 16⟩], 3, 32, .agg #[.int .i64 0, .int .i64 0, .string ByteArray.empty], false⟩),
  (69, ⟨.struct #[⟨"Kind", 3, 0, false, "", "", 0⟩, ⟨"Int", 2, 1, false, "", "", 8⟩, ⟨"Str", 9, 2, false, "", "", 16⟩], 3, 32, .agg #[.int .i64 0, .int .i64 0, .string ByteArray.empty], true⟩),
  (74, ⟨.int .u16, 1, 2, .int .u16 0, false⟩),
  (76, ⟨.slice 9, 1, 24, .slice none 0 0, false⟩),
  (87, ⟨.slice 4, 1, 24, .slice none 0 0, false⟩),
  (89, ⟨.struct #[⟨"Data", 9, 0, false, "", "", 0⟩, ⟨"At", 3, 1, false, "", "", 16⟩, ⟨"Err", 25, 2, false, "", "", 24⟩], 3, 32, .agg #[.string ByteArray.empty, .int .i64 0, .int .i64 0], false⟩),
  (90, ⟨.struct #[⟨"Data", 9, 0, false, "", "", 0⟩, ⟨"At", 3, 1, false, "", "", 16⟩, ⟨"Err", 25, 2, false, "", "", 24⟩], 3, 32, .agg #[.string ByteArray.empty, .int .i64 0, .int .i64 0], true⟩),
  (91, ⟨.struct #[⟨"Reader", 90, 0, true, "", "", 0⟩], 3, 32, .agg #[.string ByteArray.empty, .int .i64 0, .int .i64 0], false⟩),
  (92, ⟨.struct #[⟨"Reader", 90, 0, true, "", "", 0⟩], 3, 32, .agg #[.string ByteArray.empty, .int .i64 0, .int .i64 0], true⟩),
  (96, ⟨.int .u64, 1, 8, .int .u64 0, false⟩),
  (100, ⟨.struct #[⟨"Data", 42, 0, false, "", "", 0⟩], 1, 24, .agg #[.slice none 0 0], false⟩),
  (101, ⟨.struct #[⟨"Data", 42, 0, false, "", "", 0⟩], 1, 24, .agg #[.slice none 0 0], false⟩),
  (102, ⟨.struct #[⟨"Writer", 101, 0, true, "", "", 0⟩], 1, 24, .agg #[.slice none 0 0], false⟩),
  (103, ⟨.struct #[⟨"Writer", 101, 0, true, "", "", 0⟩], 1, 24, .agg #[.slice none 0 0], false⟩),
  (110, ⟨.struct #[], 0, 0, .agg #[], false⟩),
  (111, ⟨.struct #[], 0, 0, .agg #[], true⟩),
  (113, ⟨.slice 3, 1, 24, .slice none 0 0, false⟩),
  (114, ⟨.struct #[⟨"f", 50, 0, false, "", "knapsack/verify", 0⟩, ⟨"shapes", 43, 7, false, "", "knapsack/verify", 112⟩, ⟨"open", 113, 8, false, "", "knapsack/verify", 136⟩], 9, 160, .agg #[.string ByteArray.empty, .int .i64 0, .int .i64 0, .int .i64 0, .slice none 0 0, .slice none 0 0, .slice none 0 0, .slice none 0 0, .slice none 0 0], false⟩),
  (115, ⟨.struct #[⟨"f", 50, 0, false, "", "knapsack/verify", 0⟩, ⟨"shapes", 43, 7, false, "", "knapsack/verify", 112⟩, ⟨"open", 113, 8, false, "", "knapsack/verify", 136⟩], 9, 160, .agg #[.string ByteArray.empty, .int .i64 0, .int .i64 0, .int .i64 0, .slice none 0 0, .slice none 0 0, .slice none 0 0, .slice none 0 0, .slice none 0 0], false⟩),
  (119, ⟨.pointer 90, 1, 8, .pointer none, false⟩),
  (124, ⟨.pointer 92, 1, 8, .pointer none, false⟩),
  (127, ⟨.pointer 101, 1, 8, .pointer none, false⟩),
  (129, ⟨.pointer 103, 1, 8, .pointer none, false⟩),
  (133, ⟨.pointer 115, 1, 8, .pointer none, false⟩),
  (135, ⟨.int .u64, 1, 8, .int .u64 0, false⟩),
  (138, ⟨.struct #[⟨"lo", 5, 0, false, "", "unicode/utf8", 0⟩, ⟨"hi", 5, 1, false, "", "unicode/utf8", 1⟩], 2, 2, .agg #[.int .u8 0, .int .u8 0], false⟩),
  (139, ⟨.struct #[⟨"lo", 5, 0, false, "", "unicode/utf8", 0⟩, ⟨"hi", 5, 1, false, "", "unicode/utf8", 1⟩], 2, 2, .agg #[.int .u8 0, .int .u8 0], false⟩),
  (141, ⟨.struct #[⟨"_interface", 17, 0, false, "", "runtime", 0⟩, ⟨"concrete", 17, 1, false, "", "runtime", 8⟩, ⟨"asserted", 17, 2, false, "", "runtime", 16⟩, ⟨"missingMethod", 9, 3, false, "", "runtime", 24⟩], 4, 40, .agg #[.pointer none, .pointer none, .pointer none, .string ByteArray.empty], false⟩),
  (142, ⟨.struct #[⟨"_interface", 17, 0, false, "", "runtime", 0⟩, ⟨"concrete", 17, 1, false, "", "runtime", 8⟩, ⟨"asserted", 17, 2, false, "", "runtime", 16⟩, ⟨"missingMethod", 9, 3, false, "", "runtime", 24⟩], 4, 40, .agg #[.pointer none, .pointer none, .pointer none, .string ByteArray.empty], false⟩),
  (144, ⟨.struct #[⟨"_", 143, 0, false, "", "runtime", 0⟩], 0, 0, .agg #[], false⟩),
  (145, ⟨.struct #[⟨"_", 143, 0, false, "", "runtime", 0⟩], 0, 0, .agg #[], false⟩),
  (146, ⟨.int .u32, 1, 4, .int .u32 0, false⟩),
  (147, ⟨.int .u8, 1, 1, .int .u8 0, false⟩),
  (148, ⟨.int .u8, 1, 1, .int .u8 0, false⟩),
  (150, ⟨.pointer 5, 1, 8, .pointer none, false⟩),
  (151, ⟨.int .i32, 1, 4, .int .i32 0, false⟩),
  (152, ⟨.int .i32, 1, 4, .int .i32 0, false⟩),
  (153, ⟨.struct #[⟨"Size_", 12, 0, false, "", "", 0⟩, ⟨"PtrBytes", 12, 1, false, "", "", 8⟩, ⟨"Hash", 146, 2, false, "", "", 16⟩, ⟨"TFlag", 147, 3, false, "", "", 20⟩, ⟨"Align_", 5, 4, false, "", "", 21⟩, ⟨"FieldAlign_", 5, 5, false, "", "", 22⟩, ⟨"Kind_", 148, 6, false, "", "", 23⟩, ⟨"Equal", 149, 7, false, "", "", 24⟩, ⟨"GCData", 150, 8, false, "", "", 32⟩, ⟨"Str", 151, 9, false, "", "", 40⟩, ⟨"PtrToThis", 152, 10, false, "", "", 44⟩], 11, 48, .agg #[.int .u64 0, .int .u64 0, .int .u32 0, .int .u8 0, .int .u8 0, .int .u8 0, .int .u8 0, .nilFunc, .pointer none, .int .i32 0, .int .i32 0], false⟩),
  (154, ⟨.struct #[⟨"Size_", 12, 0, false, "", "", 0⟩, ⟨"PtrBytes", 12, 1, false, "", "", 8⟩, ⟨"Hash", 146, 2, false, "", "", 16⟩, ⟨"TFlag", 147, 3, false, "", "", 20⟩, ⟨"Align_", 5, 4, false, "", "", 21⟩, ⟨"FieldAlign_", 5, 5, false, "", "", 22⟩, ⟨"Kind_", 148, 6, false, "", "", 23⟩, ⟨"Equal", 149, 7, false, "", "", 24⟩, ⟨"GCData", 150, 8, false, "", "", 32⟩, ⟨"Str", 151, 9, false, "", "", 40⟩, ⟨"PtrToThis", 152, 10, false, "", "", 44⟩], 11, 48, .agg #[.int .u64 0, .int .u64 0, .int .u32 0, .int .u8 0, .int .u8 0, .int .u8 0, .int .u8 0, .nilFunc, .pointer none, .int .i32 0, .int .i32 0], false⟩),
  (155, ⟨.unsafePointer, 1, 8, .pointer none, false⟩)]
theorem tyTab_ok : TabOk Tryd.prog tyTab := by
  unfold tyTab
  exact ⟨⟨⟨by kernel_rfl, by kernel_rfl⟩, (fun h => by cases h)⟩, ⟨⟨by kernel_rfl, by kernel_rfl⟩, (fun h => by cases h)⟩, ⟨⟨by kernel_rfl, by kernel_rfl⟩, (fun h => by cases h)⟩, ⟨⟨by kernel_rfl, by kernel_rfl⟩, (fun h => by cases h)⟩, ⟨⟨by kernel_rfl, by kernel_rfl⟩, (fun h => by cases h)⟩, ⟨⟨by kernel_rfl, by kernel_rfl⟩, (fun h => by cases h)⟩, ⟨⟨by kernel_rfl, by kernel_rfl⟩, (fun h => by cases h)⟩, ⟨⟨by kernel_rfl, by kernel_rfl⟩, (fun h => by cases h)⟩, ⟨⟨by kernel_rfl, by kernel_rfl⟩, (fun h => by cases h)⟩, ⟨⟨by kernel_rfl, by kernel_rfl⟩, (fun h => by cases h)⟩, ⟨⟨by kernel_rfl, by kernel_rfl⟩, (fun h => by cases h)⟩, ⟨⟨by kernel_rfl, by kernel_rfl⟩, (fun h => by cases h)⟩, ⟨⟨by kernel_rfl, by kernel_rfl⟩, (fun h => by cases h)⟩, ⟨⟨by kernel_rfl, by kernel_rfl⟩, (fun h => by cases h)⟩, ⟨⟨by kernel_rfl, by kernel_rfl⟩, (fun h => by cases h)⟩, ⟨⟨by kernel_rfl, by kernel_rfl⟩, (fun h => by cases h)⟩, ⟨⟨by kernel_rfl, by kernel_rfl⟩, (fun h => by cases h)⟩, ⟨⟨by kernel_rfl, by kernel_rfl⟩, (fun h => by cases h)⟩, ⟨⟨by kernel_rfl, by kernel_rfl⟩, (fun h => by cases h)⟩, ⟨⟨by kernel_rfl, by kernel_rfl⟩, (fun h => by cases h)⟩, ⟨⟨by kernel_rfl, by kernel_rfl⟩, (fun h => by cases h)⟩, ⟨⟨by kernel_rfl, by kernel_rfl⟩, fun _ => ⟨by kernel_rfl, by kernel_rfl⟩⟩, ⟨⟨by kernel_rfl, by kernel_rfl⟩, (fun h => by cases h)⟩, ⟨⟨by kernel_rfl, by kernel_rfl⟩, fun _ => ⟨by kernel_rfl, by kernel_rfl⟩⟩, ⟨⟨by kernel_rfl, by kernel_rfl⟩, (fun h => by cases h)⟩, ⟨⟨by kernel_rfl, by kernel_rfl⟩, (fun h => by cases h)⟩, ⟨⟨by kernel_rfl, by kernel_rfl⟩, (fun h => by cases h)⟩, ⟨⟨by kernel_rfl, by kernel_rfl⟩, (fun h => by cases h)⟩, ⟨⟨by kernel_rfl, by kernel_rfl⟩, (fun h => by cases h)⟩, ⟨⟨by kernel_rfl, by kernel_rfl⟩, (fun h => by cases h)⟩, ⟨⟨by kernel_rfl, by kernel_rfl⟩, (fun h => by cases h)⟩, ⟨⟨by kernel_rfl, by kernel_rfl⟩, (fun h => by cases h)⟩, ⟨⟨by kernel_rfl, by kernel_rfl⟩, (fun h => by cases h)⟩, ⟨⟨by kernel_rfl, by kernel_rfl⟩, (fun h => by cases h)⟩, ⟨⟨by kernel_rfl, by kernel_rfl⟩, (fun h => by cases h)⟩, ⟨⟨by kernel_rfl, by kernel_rfl⟩, fun _ => ⟨by kernel_rfl, by kernel_rfl⟩⟩, ⟨⟨by kernel_rfl, by kernel_rfl⟩, (fun h => by cases h)⟩, ⟨⟨by kernel_rfl, by kernel_rfl⟩, fun _ => ⟨by kernel_rfl, by kernel_rfl⟩⟩, ⟨⟨by kernel_rfl, by kernel_rfl⟩, (fun h => by cases h)⟩, ⟨⟨by kernel_rfl, by kernel_rfl⟩, fun _ => ⟨by kernel_rfl, by kernel_rfl⟩⟩, ⟨⟨by kernel_rfl, by kernel_rfl⟩, (fun h => by cases h)⟩, ⟨⟨by kernel_rfl, by kernel_rfl⟩, (fun h => by cases h)⟩, ⟨⟨by kernel_rfl, by kernel_rfl⟩, fun _ => ⟨by kernel_rfl, by kernel_rfl⟩⟩, ⟨⟨by kernel_rfl, by kernel_rfl⟩, (fun h => by cases h)⟩, ⟨⟨by kernel_rfl, by kernel_rfl⟩, (fun h => by cases h)⟩, ⟨⟨by kernel_rfl, by kernel_rfl⟩, (fun h => by cases h)⟩, ⟨⟨by kernel_rfl, by kernel_rfl⟩, (fun h => by cases h)⟩, ⟨⟨by kernel_rfl, by kernel_rfl⟩, fun _ => ⟨by kernel_rfl, by kernel_rfl⟩⟩, ⟨⟨by kernel_rfl, by kernel_rfl⟩, (fun h => by cases h)⟩, ⟨⟨by kernel_rfl, by kernel_rfl⟩, fun _ => ⟨by kernel_rfl, by kernel_rfl⟩⟩, ⟨⟨by kernel_rfl, by kernel_rfl⟩, (fun h => by cases h)⟩, ⟨⟨by kernel_rfl, by kernel_rfl⟩, (fun h => by cases h)⟩, ⟨⟨by kernel_rfl, by kernel_rfl⟩, (fun h => by cases h)⟩, ⟨⟨by kernel_rfl, by kernel_rfl⟩, (fun h => by cases h)⟩, ⟨⟨by kernel_rfl, by kernel_rfl⟩, (fun h => by cases h)⟩, ⟨⟨by kernel_rfl, by kernel_rfl⟩, (fun h => by cases h)⟩, ⟨⟨by kernel_rfl, by kernel_rfl⟩, fun _ => ⟨by kernel_rfl, by kernel_rfl⟩⟩, ⟨⟨by kernel_rfl, by kernel_rfl⟩, (fun h => by cases h)⟩, ⟨⟨by kernel_rfl, by kernel_rfl⟩, (fun h => by cases h)⟩, ⟨⟨by kernel_rfl, by kernel_rfl⟩, (fun h => by cases h)⟩, ⟨⟨by kernel_rfl, by kernel_rfl⟩, (fun h => by cases h)⟩, ⟨⟨by kernel_rfl, by kernel_rfl⟩, (fun h => by cases h)⟩, ⟨⟨by kernel_rfl, by kernel_rfl⟩, (fun h => by cases h)⟩, ⟨⟨by kernel_rfl, by kernel_rfl⟩, (fun h => by cases h)⟩, ⟨⟨by kernel_rfl, by kernel_rfl⟩, (fun h => by cases h)⟩, ⟨⟨by kernel_rfl, by kernel_rfl⟩, (fun h => by cases h)⟩, ⟨⟨by kernel_rfl, by kernel_rfl⟩, (fun h => by cases h)⟩, ⟨⟨by kernel_rfl, by kernel_rfl⟩, (fun h => by cases h)⟩, ⟨⟨by kernel_rfl, by kernel_rfl⟩, (fun h => by cases h)⟩, ⟨⟨by kernel_rfl, by kernel_rfl⟩, (fun h => by cases h)⟩, ⟨⟨by kernel_rfl, by kernel_rfl⟩, (fun h => by cases h)⟩, ⟨⟨by kernel_rfl, by kernel_rfl⟩, (fun h => by cases h)⟩, ⟨⟨by kernel_rfl, by kernel_rfl⟩, (fun h => by cases h)⟩, ⟨⟨by kernel_rfl, by kernel_rfl⟩, (fun h => by cases h)⟩, ⟨⟨by kernel_rfl, by kernel_rfl⟩, (fun h => by cases h)⟩, ⟨⟨by kernel_rfl, by kernel_rfl⟩, (fun h => by cases h)⟩, ⟨⟨by kernel_rfl, by kernel_rfl⟩, (fun h => by cases h)⟩, ⟨⟨by kernel_rfl, by kernel_rfl⟩, (fun h => by cases h)⟩, ⟨⟨by kernel_rfl, by kernel_rfl⟩, (fun h => by cases h)⟩, ⟨⟨by kernel_rfl, by kernel_rfl⟩, (fun h => by cases h)⟩, ⟨⟨by kernel_rfl, by kernel_rfl⟩, (fun h => by cases h)⟩, trivial⟩
def tyT : TT := lookT tyTab
theorem tyT_ok : TOk Tryd.prog tyT := tok_of _ tyTab_ok
theorem mixed : Tryd.prog.follows .mixedOrders = true := by kernel_rfl
end Go.Proofs.YtlffpgjkhehdmaaDoor
