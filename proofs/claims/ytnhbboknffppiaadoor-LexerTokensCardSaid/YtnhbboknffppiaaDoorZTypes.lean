/- Own work (printed by wip/gen_types.py): the types of this seat, as the walk over data asks of them. -/
import Derived.Test.YtnhbboknffppiaaDoorProg
import Derived.Test.YtnhbboknffppiaaDoorZGB
namespace Go.Proofs.YtnhbboknffppiaaDoor
open Go.RowKit

def lookT : List (Nat × TI) → Nat → Option TI
  | [], _ => none
  | (k, i) :: r, t => if k = t then some i else lookT r t
def TabOk (P : Program) : List (Nat × TI) → Prop
  | [] => True
  | (t, i) :: r => ((P.underlying t = some i.desc ∧ (P.info? t).map (fun j => (j.zero, j.size, j.bytes)) = some (some i.zero, i.size, i.bytes)) ∧ (i.cmp = true → P.stoodInHeld t = false ∧ P.eqGuardType P.depth t = false)) ∧ TabOk P r
theorem tok_of {P : Program} : ∀ l : List (Nat × TI), TabOk P l → TOk P (lookT l)
  | [], _, t, i, h => by simp [lookT] at h
  | (k, j) :: r, hh, t, i, h => by
    unfold lookT at h
    split at h
    · rename_i e
      subst e
      cases h
      exact hh.1
    · exact tok_of r hh.2 t i h
def tyTab : List (Nat × TI) := [
  (2, ⟨.int .i64, 1, 8, .int .i64 0, false⟩),
  (3, ⟨.int .i64, 1, 8, .int .i64 0, false⟩),
  (4, ⟨.bool, 1, 1, .bool false, false⟩),
  (5, ⟨.int .u8, 1, 1, .int .u8 0, false⟩),
  (6, ⟨.int .u8, 1, 1, .int .u8 0, false⟩),
  (7, ⟨.struct #[⟨"x", 2, 0, false, "", "runtime", 0⟩, ⟨"y", 3, 1, false, "", "runtime", 8⟩, ⟨"signed", 4, 2, false, "", "runtime", 16⟩, ⟨"code", 6, 3, false, "", "runtime", 17⟩], 4, 24, .agg #[.int .i64 0, .int .i64 0, .bool false, .int .u8 0], false⟩),
  (8, ⟨.struct #[⟨"x", 2, 0, false, "", "runtime", 0⟩, ⟨"y", 3, 1, false, "", "runtime", 8⟩, ⟨"signed", 4, 2, false, "", "runtime", 16⟩, ⟨"code", 6, 3, false, "", "runtime", 17⟩], 4, 24, .agg #[.int .i64 0, .int .i64 0, .bool false, .int .u8 0], false⟩),
  (9, ⟨.string, 1, 16, .string ByteArray.empty, false⟩),
  (10, ⟨.string, 1, 16, .string ByteArray.empty, false⟩),
  (11, ⟨.string, 1, 16, .string ByteArray.empty, false⟩),
  (12, ⟨.int .u64, 1, 8, .int .u64 0, false⟩),
  (13, ⟨.struct #[⟨"msg", 9, 0, false, "", "runtime", 0⟩, ⟨"addr", 12, 1, false, "", "runtime", 16⟩], 2, 24, .agg #[.string ByteArray.empty, .int .u64 0], false⟩),
  (14, ⟨.struct #[⟨"msg", 9, 0, false, "", "runtime", 0⟩, ⟨"addr", 12, 1, false, "", "runtime", 16⟩], 2, 24, .agg #[.string ByteArray.empty, .int .u64 0], false⟩),
  (15, ⟨.pointer 123, 1, 8, .pointer none, false⟩),
  (16, ⟨.pointer 126, 1, 8, .pointer none, false⟩),
  (17, ⟨.pointer 134, 1, 8, .pointer none, false⟩),
  (18, ⟨.struct #[⟨"typ", 17, 0, false, "", "internal/runtime/maps", 0⟩], 1, 8, .agg #[.pointer none], false⟩),
  (19, ⟨.struct #[⟨"typ", 17, 0, false, "", "internal/runtime/maps", 0⟩], 1, 8, .agg #[.pointer none], false⟩),
  (20, ⟨.interface #[], 1, 16, .nilIface, false⟩),
  (21, ⟨.int .i32, 1, 4, .int .i32 0, false⟩),
  (23, ⟨.slice 30, 1, 24, .slice none 0 0, false⟩),
  (24, ⟨.int .i64, 1, 8, .int .i64 0, false⟩),
  (29, ⟨.struct #[⟨"Kind", 3, 0, false, "", "", 0⟩, ⟨"Text", 9, 1, false, "", "", 8⟩, ⟨"At", 3, 2, false, "", "", 24⟩], 3, 32, .agg #[.int .i64 0, .string ByteArray.empty, .int .i64 0], false⟩),
  (30, ⟨.struct #[⟨"Kind", 3, 0, false, "", "", 0⟩, ⟨"Text", 9, 1, false, "", "", 8⟩, ⟨"At", 3, 2, false, "", "", 24⟩], 3, 32, .agg #[.int .i64 0, .string ByteArray.empty, .int .i64 0], true⟩),
  (31, ⟨.slice 9, 1, 24, .slice none 0 0, false⟩),
  (35, ⟨.int .u64, 1, 8, .int .u64 0, false⟩),
  (53, ⟨.slice 5, 1, 24, .slice none 0 0, false⟩),
  (54, ⟨.int .u64, 1, 8, .int .u64 0, false⟩),
  (60, ⟨.pointer 62, 1, 8, .pointer none, false⟩),
  (61, ⟨.struct #[⟨"addr", 60, 0, false, "", "strings", 0⟩, ⟨"buf", 53, 1, false, "", "strings", 8⟩], 2, 32, .agg #[.pointer none, .slice none 0 0], false⟩),
  (62, ⟨.struct #[⟨"addr", 60, 0, false, "", "strings", 0⟩, ⟨"buf", 53, 1, false, "", "strings", 8⟩], 2, 32, .agg #[.pointer none, .slice none 0 0], false⟩),
  (63, ⟨.interface #[("Error", 67)], 1, 16, .nilIface, false⟩),
  (64, ⟨.interface #[("Error", 67)], 1, 16, .nilIface, false⟩),
  (75, ⟨.struct #[⟨"lo", 5, 0, false, "", "unicode/utf8", 0⟩, ⟨"hi", 5, 1, false, "", "unicode/utf8", 1⟩], 2, 2, .agg #[.int .u8 0, .int .u8 0], false⟩),
  (76, ⟨.struct #[⟨"lo", 5, 0, false, "", "unicode/utf8", 0⟩, ⟨"hi", 5, 1, false, "", "unicode/utf8", 1⟩], 2, 2, .agg #[.int .u8 0, .int .u8 0], false⟩),
  (79, ⟨.pointer 5, 1, 8, .pointer none, false⟩),
  (85, ⟨.unsafePointer, 1, 8, .pointer none, false⟩),
  (87, ⟨.int .u32, 1, 4, .int .u32 0, false⟩),
  (94, ⟨.int .i64, 1, 8, .int .i64 0, false⟩),
  (97, ⟨.pointer 102, 1, 8, .pointer none, false⟩),
  (101, ⟨.struct #[⟨"Func", 9, 0, false, "", "", 0⟩, ⟨"Num", 9, 1, false, "", "", 16⟩, ⟨"Err", 64, 2, false, "", "", 32⟩], 3, 48, .agg #[.string ByteArray.empty, .string ByteArray.empty, .nilIface], false⟩),
  (102, ⟨.struct #[⟨"Func", 9, 0, false, "", "", 0⟩, ⟨"Num", 9, 1, false, "", "", 16⟩, ⟨"Err", 64, 2, false, "", "", 32⟩], 3, 48, .agg #[.string ByteArray.empty, .string ByteArray.empty, .nilIface], false⟩),
  (105, ⟨.pointer 107, 1, 8, .pointer none, false⟩),
  (106, ⟨.struct #[⟨"s", 9, 0, false, "", "errors", 0⟩], 1, 16, .agg #[.string ByteArray.empty], false⟩),
  (107, ⟨.struct #[⟨"s", 9, 0, false, "", "errors", 0⟩], 1, 16, .agg #[.string ByteArray.empty], false⟩),
  (122, ⟨.struct #[⟨"_interface", 17, 0, false, "", "runtime", 0⟩, ⟨"concrete", 17, 1, false, "", "runtime", 8⟩, ⟨"asserted", 17, 2, false, "", "runtime", 16⟩, ⟨"missingMethod", 9, 3, false, "", "runtime", 24⟩], 4, 40, .agg #[.pointer none, .pointer none, .pointer none, .string ByteArray.empty], false⟩),
  (123, ⟨.struct #[⟨"_interface", 17, 0, false, "", "runtime", 0⟩, ⟨"concrete", 17, 1, false, "", "runtime", 8⟩, ⟨"asserted", 17, 2, false, "", "runtime", 16⟩, ⟨"missingMethod", 9, 3, false, "", "runtime", 24⟩], 4, 40, .agg #[.pointer none, .pointer none, .pointer none, .string ByteArray.empty], false⟩),
  (125, ⟨.struct #[⟨"_", 124, 0, false, "", "runtime", 0⟩], 0, 0, .agg #[], false⟩),
  (126, ⟨.struct #[⟨"_", 124, 0, false, "", "runtime", 0⟩], 0, 0, .agg #[], false⟩),
  (128, ⟨.int .u8, 1, 1, .int .u8 0, false⟩),
  (129, ⟨.int .u8, 1, 1, .int .u8 0, false⟩),
  (131, ⟨.int .i32, 1, 4, .int .i32 0, false⟩),
  (132, ⟨.int .i32, 1, 4, .int .i32 0, false⟩),
  (133, ⟨.struct #[⟨"Size_", 12, 0, false, "", "", 0⟩, ⟨"PtrBytes", 12, 1, false, "", "", 8⟩, ⟨"Hash", 87, 2, false, "", "", 16⟩, ⟨"TFlag", 128, 3, false, "", "", 20⟩, ⟨"Align_", 5, 4, false, "", "", 21⟩, ⟨"FieldAlign_", 5, 5, false, "", "", 22⟩, ⟨"Kind_", 129, 6, false, "", "", 23⟩, ⟨"Equal", 130, 7, false, "", "", 24⟩, ⟨"GCData", 79, 8, false, "", "", 32⟩, ⟨"Str", 131, 9, false, "", "", 40⟩, ⟨"PtrToThis", 132, 10, false, "", "", 44⟩], 11, 48, .agg #[.int .u64 0, .int .u64 0, .int .u32 0, .int .u8 0, .int .u8 0, .int .u8 0, .int .u8 0, .nilFunc, .pointer none, .int .i32 0, .int .i32 0], false⟩),
  (134, ⟨.struct #[⟨"Size_", 12, 0, false, "", "", 0⟩, ⟨"PtrBytes", 12, 1, false, "", "", 8⟩, ⟨"Hash", 87, 2, false, "", "", 16⟩, ⟨"TFlag", 128, 3, false, "", "", 20⟩, ⟨"Align_", 5, 4, false, "", "", 21⟩, ⟨"FieldAlign_", 5, 5, false, "", "", 22⟩, ⟨"Kind_", 129, 6, false, "", "", 23⟩, ⟨"Equal", 130, 7, false, "", "", 24⟩, ⟨"GCData", 79, 8, false, "", "", 32⟩, ⟨"Str", 131, 9, false, "", "", 40⟩, ⟨"PtrToThis", 132, 10, false, "", "", 44⟩], 11, 48, .agg #[.int .u64 0, .int .u64 0, .int .u32 0, .int .u8 0, .int .u8 0, .int .u8 0, .int .u8 0, .nilFunc, .pointer none, .int .i32 0, .int .i32 0], false⟩)]
theorem tyTab_ok : TabOk Tryd.prog tyTab := by
  unfold tyTab
  exact ⟨⟨⟨by kernel_rfl, by kernel_rfl⟩, (fun h => by cases h)⟩, ⟨⟨by kernel_rfl, by kernel_rfl⟩, (fun h => by cases h)⟩, ⟨⟨by kernel_rfl, by kernel_rfl⟩, (fun h => by cases h)⟩, ⟨⟨by kernel_rfl, by kernel_rfl⟩, (fun h => by cases h)⟩, ⟨⟨by kernel_rfl, by kernel_rfl⟩, (fun h => by cases h)⟩, ⟨⟨by kernel_rfl, by kernel_rfl⟩, (fun h => by cases h)⟩, ⟨⟨by kernel_rfl, by kernel_rfl⟩, (fun h => by cases h)⟩, ⟨⟨by kernel_rfl, by kernel_rfl⟩, (fun h => by cases h)⟩, ⟨⟨by kernel_rfl, by kernel_rfl⟩, (fun h => by cases h)⟩, ⟨⟨by kernel_rfl, by kernel_rfl⟩, (fun h => by cases h)⟩, ⟨⟨by kernel_rfl, by kernel_rfl⟩, (fun h => by cases h)⟩, ⟨⟨by kernel_rfl, by kernel_rfl⟩, (fun h => by cases h)⟩, ⟨⟨by kernel_rfl, by kernel_rfl⟩, (fun h => by cases h)⟩, ⟨⟨by kernel_rfl, by kernel_rfl⟩, (fun h => by cases h)⟩, ⟨⟨by kernel_rfl, by kernel_rfl⟩, (fun h => by cases h)⟩, ⟨⟨by kernel_rfl, by kernel_rfl⟩, (fun h => by cases h)⟩, ⟨⟨by kernel_rfl, by kernel_rfl⟩, (fun h => by cases h)⟩, ⟨⟨by kernel_rfl, by kernel_rfl⟩, (fun h => by cases h)⟩, ⟨⟨by kernel_rfl, by kernel_rfl⟩, (fun h => by cases h)⟩, ⟨⟨by kernel_rfl, by kernel_rfl⟩, (fun h => by cases h)⟩, ⟨⟨by kernel_rfl, by kernel_rfl⟩, (fun h => by cases h)⟩, ⟨⟨by kernel_rfl, by kernel_rfl⟩, (fun h => by cases h)⟩, ⟨⟨by kernel_rfl, by kernel_rfl⟩, (fun h => by cases h)⟩, ⟨⟨by kernel_rfl, by kernel_rfl⟩, fun _ => ⟨by kernel_rfl, by kernel_rfl⟩⟩, ⟨⟨by kernel_rfl, by kernel_rfl⟩, (fun h => by cases h)⟩, ⟨⟨by kernel_rfl, by kernel_rfl⟩, (fun h => by cases h)⟩, ⟨⟨by kernel_rfl, by kernel_rfl⟩, (fun h => by cases h)⟩, ⟨⟨by kernel_rfl, by kernel_rfl⟩, (fun h => by cases h)⟩, ⟨⟨by kernel_rfl, by kernel_rfl⟩, (fun h => by cases h)⟩, ⟨⟨by kernel_rfl, by kernel_rfl⟩, (fun h => by cases h)⟩, ⟨⟨by kernel_rfl, by kernel_rfl⟩, (fun h => by cases h)⟩, ⟨⟨by kernel_rfl, by kernel_rfl⟩, (fun h => by cases h)⟩, ⟨⟨by kernel_rfl, by kernel_rfl⟩, (fun h => by cases h)⟩, ⟨⟨by kernel_rfl, by kernel_rfl⟩, (fun h => by cases h)⟩, ⟨⟨by kernel_rfl, by kernel_rfl⟩, (fun h => by cases h)⟩, ⟨⟨by kernel_rfl, by kernel_rfl⟩, (fun h => by cases h)⟩, ⟨⟨by kernel_rfl, by kernel_rfl⟩, (fun h => by cases h)⟩, ⟨⟨by kernel_rfl, by kernel_rfl⟩, (fun h => by cases h)⟩, ⟨⟨by kernel_rfl, by kernel_rfl⟩, (fun h => by cases h)⟩, ⟨⟨by kernel_rfl, by kernel_rfl⟩, (fun h => by cases h)⟩, ⟨⟨by kernel_rfl, by kernel_rfl⟩, (fun h => by cases h)⟩, ⟨⟨by kernel_rfl, by kernel_rfl⟩, (fun h => by cases h)⟩, ⟨⟨by kernel_rfl, by kernel_rfl⟩, (fun h => by cases h)⟩, ⟨⟨by kernel_rfl, by kernel_rfl⟩, (fun h => by cases h)⟩, ⟨⟨by kernel_rfl, by kernel_rfl⟩, (fun h => by cases h)⟩, ⟨⟨by kernel_rfl, by kernel_rfl⟩, (fun h => by cases h)⟩, ⟨⟨by kernel_rfl, by kernel_rfl⟩, (fun h => by cases h)⟩, ⟨⟨by kernel_rfl, by kernel_rfl⟩, (fun h => by cases h)⟩, ⟨⟨by kernel_rfl, by kernel_rfl⟩, (fun h => by cases h)⟩, ⟨⟨by kernel_rfl, by kernel_rfl⟩, (fun h => by cases h)⟩, ⟨⟨by kernel_rfl, by kernel_rfl⟩, (fun h => by cases h)⟩, ⟨⟨by kernel_rfl, by kernel_rfl⟩, (fun h => by cases h)⟩, ⟨⟨by kernel_rfl, by kernel_rfl⟩, (fun h => by cases h)⟩, ⟨⟨by kernel_rfl, by kernel_rfl⟩, (fun h => by cases h)⟩, ⟨⟨by kernel_rfl, by kernel_rfl⟩, (fun h => by cases h)⟩, trivial⟩
def tyT : TT := lookT tyTab
theorem tyT_ok : TOk Tryd.prog tyT := tok_of _ tyTab_ok
theorem mixed : Tryd.prog.follows .mixedOrders = true := by kernel_rfl
end Go.Proofs.YtnhbboknffppiaaDoor
