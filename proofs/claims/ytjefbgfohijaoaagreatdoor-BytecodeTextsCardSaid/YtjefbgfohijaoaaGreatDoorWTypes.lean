/- Own work (printed by wip/gen_types.py): the types of this seat, as the walk over data asks of them. -/
import Derived.Test.YtjefbgfohijaoaaGreatDoorProg
import Derived.Test.YtjefbgfohijaoaaGreatDoorWGB
namespace Go.Proofs.YtjefbgfohijaoaaGreatDoor
open Go.RowKit
def lookT : List (Nat × TI) -> Nat -> Option TI
 | [], _ => none
 | (k, i) :: r, t => if k = t then some i else lookT r t
def TabOk (P : Program) : List (Nat × TI) -> Prop
 | [] => True
 | (t, i) :: r => ((P.underlying t = some i.desc /\ (P.info? t).map (fun j => (j.zero, j.size, j.bytes)) = some (some i.zero, i.size, i.bytes)) /\ (i.cmp = true -> P.stoodInHeld t = false /\ P.eqGuardType P.depth t = false)) /\ TabOk P r
theorem tok_of {P : Program} : ∀ l : List (Nat × TI), TabOk P l -> TOk P (lookT l)
 | [], _, t, i, h => by simp [lookT] at h
 | (k, j) :: r, hh, t, i, h => by
  unfold lookT at h
  split at h
  ·rename_i e
   subst e
   cases h
   exact hh.1
  ·exact tok_of r hh.2 t i h
def tyTab : List (Nat × TI) := [
 (2, ⟨.int .i64, 1, 8, .int .i64 0, false⟩),
 (3, ⟨.int .i64, 1, 8, .int .i64 0, false⟩),
 (4, ⟨.bool, 1, 1, .bool false, false⟩),
 (5, ⟨.int .u8, 1, 1, .int .u8 0, false⟩),
 (6, ⟨.int .u8, 1, 1, .int .u8 0, false⟩),
 (7, ⟨.struct #[⟨"x", 2, 0, false, "", "runtime", 0⟩, ⟨"y", 3, 1, false, "", "runtime", 8⟩, ⟨"signed", 4, 2, false, "", "runtime", 16⟩, ⟨"code", 6, 3, false, "", "runtime", 17⟩], 4, 24, .agg #[.int .i64 0, .int .i64 0, .bool false, .int .u8 0], false⟩),
 (8, ⟨.struct #[⟨"x", 2, 0, false, "", "runtime", 0⟩, ⟨"y", 3, 1, false, "", "runtime", 8⟩, ⟨"signed", 4, 2, false, "", "runtime", 16⟩, ⟨"code", 6, 3, false, "", "runtime", 17⟩], 4, 24, .agg #[.int .i64 0, .int .i64 0, .bool false, .int .u8 0], false⟩),
 (9, ⟨.string, 1, 16, .string ByteArray.empty, false⟩),
 (10, ⟨.string, 1, 16, .string ByteArray.empty, false⟩),
 (11, ⟨.string, 1, 16, .string ByteArray.empty, false⟩),
 (12, ⟨.int .u64, 1, 8, .int .u64 0, false⟩),
 (13, ⟨.struct #[⟨"msg", 9, 0, false, "", "runtime", 0⟩, ⟨"addr", 12, 1, false, "", "runtime", 16⟩], 2, 24, .agg #[.string ByteArray.empty, .int .u64 0], false⟩),
 (14, ⟨.struct #[⟨"msg", 9, 0, false, "", "runtime", 0⟩, ⟨"addr", 12, 1, false, "", "runtime", 16⟩], 2, 24, .agg #[.string ByteArray.empty, .int .u64 0], false⟩),
 (15, ⟨.pointer 156, 1, 8, .pointer none, false⟩),
 (16, ⟨.pointer 159, 1, 8, .pointer none, false⟩),
 (17, ⟨.pointer 167, 1, 8, .pointer none, false⟩),
 (18, ⟨.struct #[⟨"typ", 17, 0, false, "", "internal/runtime/maps", 0⟩], 1, 8, .agg #[.pointer none], false⟩),
 (19, ⟨.struct #[⟨"typ", 17, 0, false, "", "internal/runtime/maps", 0⟩], 1, 8, .agg #[.pointer none], false⟩),
 (20, ⟨.interface #[], 1, 16, .nilIface, false⟩),
 (21, ⟨.int .i32, 1, 4, .int .i32 0, false⟩),
 (22, ⟨.slice 33, 1, 24, .slice none 0 0, false⟩),
 (23, ⟨.struct #[⟨"Funcs", 22, 0, false, "", "", 0⟩], 1, 24, .agg #[.slice none 0 0], false⟩),
 (24, ⟨.struct #[⟨"Funcs", 22, 0, false, "", "", 0⟩], 1, 24, .agg #[.slice none 0 0], false⟩),
 (29, ⟨.slice 41, 1, 24, .slice none 0 0, false⟩),
 (30, ⟨.slice 47, 1, 24, .slice none 0 0, false⟩),
 (31, ⟨.slice 58, 1, 24, .slice none 0 0, false⟩),
 (32, ⟨.struct #[⟨"Name", 9, 0, false, "", "", 0⟩, ⟨"Kind", 3, 1, false, "", "", 16⟩, ⟨"Params", 3, 2, false, "", "", 24⟩, ⟨"Locals", 3, 3, false, "", "", 32⟩, ⟨"Code", 29, 4, false, "", "", 40⟩, ⟨"Consts", 30, 5, false, "", "", 64⟩, ⟨"Handlers", 31, 6, false, "", "", 88⟩], 7, 112, .agg #[.string ByteArray.empty, .int .i64 0, .int .i64 0, .int .i64 0, .slice none 0 0, .slice none 0 0, .slice none 0 0], false⟩),
 (33, ⟨.struct #[⟨"Name", 9, 0, false, "", "", 0⟩, ⟨"Kind", 3, 1, false, "", "", 16⟩, ⟨"Params", 3, 2, false, "", "", 24⟩, ⟨"Locals", 3, 3, false, "", "", 32⟩, ⟨"Code", 29, 4, false, "", "", 40⟩, ⟨"Consts", 30, 5, false, "", "", 64⟩, ⟨"Handlers", 31, 6, false, "", "", 88⟩], 7, 112, .agg #[.string ByteArray.empty, .int .i64 0, .int .i64 0, .int .i64 0, .slice none 0 0, .slice none 0 0, .slice none 0 0], false⟩),
 (34, ⟨.int .i64, 1, 8, .int .i64 0, false⟩),
 (40, ⟨.struct #[⟨"Op", 3, 0, false, "", "", 0⟩, ⟨"A", 3, 1, false, "", "", 8⟩, ⟨"B", 3, 2, false, "", "", 16⟩], 3, 24, .agg #[.int .i64 0, .int .i64 0, .int .i64 0], false⟩),
 (41, ⟨.struct #[⟨"Op", 3, 0, false, "", "", 0⟩, ⟨"A", 3, 1, false, "", "", 8⟩, ⟨"B", 3, 2, false, "", "", 16⟩], 3, 24, .agg #[.int .i64 0, .int .i64 0, .int .i64 0], true⟩),
 (42, ⟨.struct #[⟨"Name", 9, 0, false, "", "", 0⟩, ⟨"Operand", 3, 1, false, "", "", 16⟩, ⟨"Pops", 3, 2, false, "", "", 24⟩, ⟨"Pushes", 3, 3, false, "", "", 32⟩, ⟨"Counted", 4, 4, false, "", "", 40⟩, ⟨"Jumped", 3, 5, false, "", "", 48⟩, ⟨"Ends", 4, 6, false, "", "", 56⟩], 7, 64, .agg #[.string ByteArray.empty, .int .i64 0, .int .i64 0, .int .i64 0, .bool false, .int .i64 0, .bool false], false⟩),
 (43, ⟨.struct #[⟨"Name", 9, 0, false, "", "", 0⟩, ⟨"Operand", 3, 1, false, "", "", 16⟩, ⟨"Pops", 3, 2, false, "", "", 24⟩, ⟨"Pushes", 3, 3, false, "", "", 32⟩, ⟨"Counted", 4, 4, false, "", "", 40⟩, ⟨"Jumped", 3, 5, false, "", "", 48⟩, ⟨"Ends", 4, 6, false, "", "", 56⟩], 7, 64, .agg #[.string ByteArray.empty, .int .i64 0, .int .i64 0, .int .i64 0, .bool false, .int .i64 0, .bool false], true⟩),
 (46, ⟨.struct #[⟨"Kind", 3, 0, false, "", "", 0⟩, ⟨"Int", 2, 1, false, "", "", 8⟩, ⟨"Str", 9, 2, false, "", "", 16⟩], 3, 32, .agg #[.int .i64 0, .int .i64 0, .string ByteArray.empty], false⟩),
 (47, ⟨.struct #[⟨"Kind", 3, 0, false, "", "", 0⟩, ⟨"Int", 2, 1, false, "", "", 8⟩, ⟨"Str", 9, 2, false, "", "", 16⟩], 3, 32, .agg #[.int .i64 0, .int .i64 0, .string ByteArray.empty], true⟩),
 (48, ⟨.pointer 51, 1, 8, .pointer none, false⟩),
 (49, ⟨.slice 5, 1, 24, .slice none 0 0, false⟩),
 (50, ⟨.struct #[⟨"addr", 48, 0, false, "", "strings", 0⟩, ⟨"buf", 49, 1, false, "", "strings", 8⟩], 2, 32, .agg #[.pointer none, .slice none 0 0], false⟩),
 (51, ⟨.struct #[⟨"addr", 48, 0, false, "", "strings", 0⟩, ⟨"buf", 49, 1, false, "", "strings", 8⟩], 2, 32, .agg #[.pointer none, .slice none 0 0], false⟩),
 (56, ⟨.slice 9, 1, 24, .slice none 0 0, false⟩),
 (57, ⟨.struct #[⟨"From", 3, 0, false, "", "", 0⟩, ⟨"To", 3, 1, false, "", "", 8⟩, ⟨"Target", 3, 2, false, "", "", 16⟩, ⟨"Depth", 3, 3, false, "", "", 24⟩, ⟨"Scope", 3, 4, false, "", "", 32⟩], 5, 40, .agg #[.int .i64 0, .int .i64 0, .int .i64 0, .int .i64 0, .int .i64 0], false⟩),
 (58, ⟨.struct #[⟨"From", 3, 0, false, "", "", 0⟩, ⟨"To", 3, 1, false, "", "", 8⟩, ⟨"Target", 3, 2, false, "", "", 16⟩, ⟨"Depth", 3, 3, false, "", "", 24⟩, ⟨"Scope", 3, 4, false, "", "", 32⟩], 5, 40, .agg #[.int .i64 0, .int .i64 0, .int .i64 0, .int .i64 0, .int .i64 0], true⟩),
 (63, ⟨.slice 3, 1, 24, .slice none 0 0, false⟩),
 (66, ⟨.interface #[("Error", 59)], 1, 16, .nilIface, false⟩),
 (67, ⟨.interface #[("Error", 59)], 1, 16, .nilIface, false⟩),
 (72, ⟨.struct #[⟨"Name", 9, 0, false, "", "", 0⟩, ⟨"Operand", 3, 1, false, "", "", 16⟩, ⟨"Pops", 3, 2, false, "", "", 24⟩, ⟨"Pushes", 3, 3, false, "", "", 32⟩, ⟨"Counted", 4, 4, false, "", "", 40⟩, ⟨"Jumped", 3, 5, false, "", "", 48⟩, ⟨"Ends", 4, 6, false, "", "", 56⟩], 7, 64, .agg #[.string ByteArray.empty, .int .i64 0, .int .i64 0, .int .i64 0, .bool false, .int .i64 0, .bool false], true⟩),
 (86, ⟨.int .u64, 1, 8, .int .u64 0, false⟩),
 (87, ⟨.pointer 5, 1, 8, .pointer none, false⟩),
 (89, ⟨.slice 93, 1, 24, .slice none 0 0, false⟩),
 (92, ⟨.struct #[⟨"Kind", 3, 0, false, "", "", 0⟩, ⟨"Text", 9, 1, false, "", "", 8⟩, ⟨"At", 3, 2, false, "", "", 24⟩], 3, 32, .agg #[.int .i64 0, .string ByteArray.empty, .int .i64 0], false⟩),
 (93, ⟨.struct #[⟨"Kind", 3, 0, false, "", "", 0⟩, ⟨"Text", 9, 1, false, "", "", 8⟩, ⟨"At", 3, 2, false, "", "", 24⟩], 3, 32, .agg #[.int .i64 0, .string ByteArray.empty, .int .i64 0], true⟩),
 (98, ⟨.int .u64, 1, 8, .int .u64 0, false⟩),
 (108, ⟨.int .i64, 1, 8, .int .i64 0, false⟩),
 (111, ⟨.pointer 137, 1, 8, .pointer none, false⟩),
 (114, ⟨.unsafePointer, 1, 8, .pointer none, false⟩),
 (118, ⟨.struct #[⟨"lo", 5, 0, false, "", "unicode/utf8", 0⟩, ⟨"hi", 5, 1, false, "", "unicode/utf8", 1⟩], 2, 2, .agg #[.int .u8 0, .int .u8 0], false⟩),
 (119, ⟨.struct #[⟨"lo", 5, 0, false, "", "unicode/utf8", 0⟩, ⟨"hi", 5, 1, false, "", "unicode/utf8", 1⟩], 2, 2, .agg #[.int .u8 0, .int .u8 0], false⟩),
 (124, ⟨.int .u32, 1, 4, .int .u32 0, false⟩),
 (136, ⟨.struct #[⟨"Func", 9, 0, false, "", "", 0⟩, ⟨"Num", 9, 1, false, "", "", 16⟩, ⟨"Err", 67, 2, false, "", "", 32⟩], 3, 48, .agg #[.string ByteArray.empty, .string ByteArray.empty, .nilIface], false⟩),
 (137, ⟨.struct #[⟨"Func", 9, 0, false, "", "", 0⟩, ⟨"Num", 9, 1, false, "", "", 16⟩, ⟨"Err", 67, 2, false, "", "", 32⟩], 3, 48, .agg #[.string ByteArray.empty, .string ByteArray.empty, .nilIface], false⟩),
 (145, ⟨.pointer 147, 1, 8, .pointer none, false⟩),
 (146, ⟨.struct #[⟨"s", 9, 0, false, "", "errors", 0⟩], 1, 16, .agg #[.string ByteArray.empty], false⟩),
 (147, ⟨.struct #[⟨"s", 9, 0, false, "", "errors", 0⟩], 1, 16, .agg #[.string ByteArray.empty], false⟩),
 (155, ⟨.struct #[⟨"_interface", 17, 0, false, "", "runtime", 0⟩, ⟨"concrete", 17, 1, false, "", "runtime", 8⟩, ⟨"asserted", 17, 2, false, "", "runtime", 16⟩, ⟨"missingMethod", 9, 3, false, "", "runtime", 24⟩], 4, 40, .agg #[.pointer none, .pointer none, .pointer none, .string ByteArray.empty], false⟩),
 (156, ⟨.struct #[⟨"_interface", 17, 0, false, "", "runtime", 0⟩, ⟨"concrete", 17, 1, false, "", "runtime", 8⟩, ⟨"asserted", 17, 2, false, "", "runtime", 16⟩, ⟨"missingMethod", 9, 3, false, "", "runtime", 24⟩], 4, 40, .agg #[.pointer none, .pointer none, .pointer none, .string ByteArray.empty], false⟩),
 (158, ⟨.struct #[⟨"_", 157, 0, false, "", "runtime", 0⟩], 0, 0, .agg #[], false⟩),
 (159, ⟨.struct #[⟨"_", 157, 0, false, "", "runtime", 0⟩], 0, 0, .agg #[], false⟩),
 (161, ⟨.int .u8, 1, 1, .int .u8 0, false⟩),
 (162, ⟨.int .u8, 1, 1, .int .u8 0, false⟩),
 (164, ⟨.int .i32, 1, 4, .int .i32 0, false⟩),
 (165, ⟨.int .i32, 1, 4, .int .i32 0, false⟩),
 (166, ⟨.struct #[⟨"Size_", 12, 0, false, "", "", 0⟩, ⟨"PtrBytes", 12, 1, false, "", "", 8⟩, ⟨"Hash", 124, 2, false, "", "", 16⟩, ⟨"TFlag", 161, 3, false, "", "", 20⟩, ⟨"Align_", 5, 4, false, "", "", 21⟩, ⟨"FieldAlign_", 5, 5, false, "", "", 22⟩, ⟨"Kind_", 162, 6, false, "", "", 23⟩, ⟨"Equal", 163, 7, false, "", "", 24⟩, ⟨"GCData", 87, 8, false, "", "", 32⟩, ⟨"Str", 164, 9, false, "", "", 40⟩, ⟨"PtrToThis", 165, 10, false, "", "", 44⟩], 11, 48, .agg #[.int .u64 0, .int .u64 0, .int .u32 0, .int .u8 0, .int .u8 0, .int .u8 0, .int .u8 0, .nilFunc, .pointer none, .int .i32 0, .int .i32 0], false⟩),
 (167, ⟨.struct #[⟨"Size_", 12, 0, false, "", "", 0⟩, ⟨"PtrBytes", 12, 1, false, "", "", 8⟩, ⟨"Hash", 124, 2, false, "", "", 16⟩, ⟨"TFlag", 161, 3, false, "", "", 20⟩, ⟨"Align_", 5, 4, false, "", "", 21⟩, ⟨"FieldAlign_", 5, 5, false, "", "", 22⟩, ⟨"Kind_", 162, 6, false, "", "", 23⟩, ⟨"Equal", 163, 7, false, "", "", 24⟩, ⟨"GCData", 87, 8, false, "", "", 32⟩, ⟨"Str", 164, 9, false, "", "", 40⟩, ⟨"PtrToThis", 165, 10, false, "", "", 44⟩], 11, 48, .agg #[.int .u64 0, .int .u64 0, .int .u32 0, .int .u8 0, .int .u8 0, .int .u8 0, .int .u8 0, .nilFunc, .pointer none, .int .i32 0, .int .i32 0], false⟩)]
theorem tyTab_ok : TabOk Tryz.prog tyTab := by
 unfold tyTab
 exact ⟨⟨⟨by kernel_rfl, by kernel_rfl⟩, (fun h => by cases h)⟩, ⟨⟨by kernel_rfl, by kernel_rfl⟩, (fun h => by cases h)⟩, ⟨⟨by kernel_rfl, by kernel_rfl⟩, (fun h => by cases h)⟩, ⟨⟨by kernel_rfl, by kernel_rfl⟩, (fun h => by cases h)⟩, ⟨⟨by kernel_rfl, by kernel_rfl⟩, (fun h => by cases h)⟩, ⟨⟨by kernel_rfl, by kernel_rfl⟩, (fun h => by cases h)⟩, ⟨⟨by kernel_rfl, by kernel_rfl⟩, (fun h => by cases h)⟩, ⟨⟨by kernel_rfl, by kernel_rfl⟩, (fun h => by cases h)⟩, ⟨⟨by kernel_rfl, by kernel_rfl⟩, (fun h => by cases h)⟩, ⟨⟨by kernel_rfl, by kernel_rfl⟩, (fun h => by cases h)⟩, ⟨⟨by kernel_rfl, by kernel_rfl⟩, (fun h => by cases h)⟩, ⟨⟨by kernel_rfl, by kernel_rfl⟩, (fun h => by cases h)⟩, ⟨⟨by kernel_rfl, by kernel_rfl⟩, (fun h => by cases h)⟩, ⟨⟨by kernel_rfl, by kernel_rfl⟩, (fun h => by cases h)⟩, ⟨⟨by kernel_rfl, by kernel_rfl⟩, (fun h => by cases h)⟩, ⟨⟨by kernel_rfl, by kernel_rfl⟩, (fun h => by cases h)⟩, ⟨⟨by kernel_rfl, by kernel_rfl⟩, (fun h => by cases h)⟩, ⟨⟨by kernel_rfl, by kernel_rfl⟩, (fun h => by cases h)⟩, ⟨⟨by kernel_rfl, by kernel_rfl⟩, (fun h => by cases h)⟩, ⟨⟨by kernel_rfl, by kernel_rfl⟩, (fun h => by cases h)⟩, ⟨⟨by kernel_rfl, by kernel_rfl⟩, (fun h => by cases h)⟩, ⟨⟨by kernel_rfl, by kernel_rfl⟩, (fun h => by cases h)⟩, ⟨⟨by kernel_rfl, by kernel_rfl⟩, (fun h => by cases h)⟩, ⟨⟨by kernel_rfl, by kernel_rfl⟩, (fun h => by cases h)⟩, ⟨⟨by kernel_rfl, by kernel_rfl⟩, (fun h => by cases h)⟩, ⟨⟨by kernel_rfl, by kernel_rfl⟩, (fun h => by cases h)⟩, ⟨⟨by kernel_rfl, by kernel_rfl⟩, (fun h => by cases h)⟩, ⟨⟨by kernel_rfl, by kernel_rfl⟩, (fun h => by cases h)⟩, ⟨⟨by kernel_rfl, by kernel_rfl⟩, (fun h => by cases h)⟩, ⟨⟨by kernel_rfl, by kernel_rfl⟩, (fun h => by cases h)⟩, ⟨⟨by kernel_rfl, by kernel_rfl⟩, fun _ => ⟨by kernel_rfl, by kernel_rfl⟩⟩, ⟨⟨by kernel_rfl, by kernel_rfl⟩, (fun h => by cases h)⟩, ⟨⟨by kernel_rfl, by kernel_rfl⟩, fun _ => ⟨by kernel_rfl, by kernel_rfl⟩⟩, ⟨⟨by kernel_rfl, by kernel_rfl⟩, (fun h => by cases h)⟩, ⟨⟨by kernel_rfl, by kernel_rfl⟩, fun _ => ⟨by kernel_rfl, by kernel_rfl⟩⟩, ⟨⟨by kernel_rfl, by kernel_rfl⟩, (fun h => by cases h)⟩, ⟨⟨by kernel_rfl, by kernel_rfl⟩, (fun h => by cases h)⟩, ⟨⟨by kernel_rfl, by kernel_rfl⟩, (fun h => by cases h)⟩, ⟨⟨by kernel_rfl, by kernel_rfl⟩, (fun h => by cases h)⟩, ⟨⟨by kernel_rfl, by kernel_rfl⟩, (fun h => by cases h)⟩, ⟨⟨by kernel_rfl, by kernel_rfl⟩, (fun h => by cases h)⟩, ⟨⟨by kernel_rfl, by kernel_rfl⟩, fun _ => ⟨by kernel_rfl, by kernel_rfl⟩⟩, ⟨⟨by kernel_rfl, by kernel_rfl⟩, (fun h => by cases h)⟩, ⟨⟨by kernel_rfl, by kernel_rfl⟩, (fun h => by cases h)⟩, ⟨⟨by kernel_rfl, by kernel_rfl⟩, (fun h => by cases h)⟩, ⟨⟨by kernel_rfl, by kernel_rfl⟩, fun _ => ⟨by kernel_rfl, by kernel_rfl⟩⟩, ⟨⟨by kernel_rfl, by kernel_rfl⟩, (fun h => by cases h)⟩, ⟨⟨by kernel_rfl, by kernel_rfl⟩, (fun h => by cases h)⟩, ⟨⟨by kernel_rfl, by kernel_rfl⟩, (fun h => by cases h)⟩, ⟨⟨by kernel_rfl, by kernel_rfl⟩, (fun h => by cases h)⟩, ⟨⟨by kernel_rfl, by kernel_rfl⟩, fun _ => ⟨by kernel_rfl, by kernel_rfl⟩⟩, ⟨⟨by kernel_rfl, by kernel_rfl⟩, (fun h => by cases h)⟩, ⟨⟨by kernel_rfl, by kernel_rfl⟩, (fun h => by cases h)⟩, ⟨⟨by kernel_rfl, by kernel_rfl⟩, (fun h => by cases h)⟩, ⟨⟨by kernel_rfl, by kernel_rfl⟩, (fun h => by cases h)⟩, ⟨⟨by kernel_rfl, by kernel_rfl⟩, (fun h => by cases h)⟩, ⟨⟨by kernel_rfl, by kernel_rfl⟩, (fun h => by cases h)⟩, ⟨⟨by kernel_rfl, by kernel_rfl⟩, (fun h => by cases h)⟩, ⟨⟨by kernel_rfl, by kernel_rfl⟩, (fun h => by cases h)⟩, ⟨⟨by kernel_rfl, by kernel_rfl⟩, (fun h => by cases h)⟩, ⟨⟨by kernel_rfl, by kernel_rfl⟩, (fun h => by cases h)⟩, ⟨⟨by kernel_rfl, by kernel_rfl⟩, (fun h => by cases h)⟩, ⟨⟨by kernel_rfl, by kernel_rfl⟩, (fun h => by cases h)⟩, ⟨⟨by kernel_rfl, by kernel_rfl⟩, (fun h => by cases h)⟩, ⟨⟨by kernel_rfl, by kernel_rfl⟩, (fun h => by cases h)⟩, ⟨⟨by kernel_rfl, by kernel_rfl⟩, (fun h => by cases h)⟩, ⟨⟨by kernel_rfl, by kernel_rfl⟩, (fun h => by cases h)⟩, ⟨⟨by kernel_rfl, by kernel_rfl⟩, (fun h => by cases h)⟩, ⟨⟨by kernel_rfl, by kernel_rfl⟩, (fun h => by cases h)⟩, ⟨⟨by kernel_rfl, by kernel_rfl⟩, (fun h => by cases h)⟩, ⟨⟨by kernel_rfl, by kernel_rfl⟩, (fun h => by cases h)⟩, ⟨⟨by kernel_rfl, by kernel_rfl⟩, (fun h => by cases h)⟩, ⟨⟨by kernel_rfl, by kernel_rfl⟩, (fun h => by cases h)⟩, trivial⟩
def tyT : TT := lookT tyTab
theorem tyT_ok : TOk Tryz.prog tyT := tok_of _ tyTab_ok
theorem mixed : Tryz.prog.follows .mixedOrders = true := by kernel_rfl
end Go.Proofs.YtjefbgfohijaoaaGreatDoor
