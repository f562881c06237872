/- Own work (printed by wip/gen_types.py): the types of this seat,as the walk over data asks of them. -/
import Derived.Test.YtcfecmeocimclaaGreatDoorYAA0
import Derived.Test.YtcfecmeocimclaaGreatDoorProg
import Derived.Test.YtcfecmeocimclaaGreatDoorYAGB
namespace Go.Proofs.YtcfecmeocimclaaGreatDoor
open Go.RowKit
def zxr:List (Nat × TI)->Nat->Option TI
 | [],_=>none
 | (k,i) :: r,t=>if k=t then some i else zxr r t
def z5z (P:Program):List (Nat × TI)->Prop
 | []=>True
 | (t,i) :: r=>((P.underlying t=some i.desc/\(P.info? t).map (fun j=>(j.zero,j.size,j.bytes))=some (some i.zero,i.size,i.bytes))/\(i.cmp=true->P.stoodInHeld t=false/\P.eqGuardType P.depth t=false))/\z5z P r
theorem z2b {P:Program}:∀ l:List (Nat × TI),z5z P l->TOk P (zxr l)
 | [],_,t,i,h=>by simp [zxr] at h
 | (k,j) :: r,hh,t,i,h=>by
  unfold zxr at h
  split at h
  ·rename_i e;subst e
   cases h
   exact hh.1
  ·exact z2b r hh.2 t i h
def z3s:List (Nat × TI):=[
 (2,⟨.int .i64,1,8,.int .i64 0,false⟩),
 (3,⟨.int .i64,1,8,.int .i64 0,false⟩),
 (4,⟨.bool,1,1,.bool false,false⟩),
 (5,⟨.int .u8,1,1,.int .u8 0,false⟩),
 (6,⟨.int .u8,1,1,.int .u8 0,false⟩),
 (7, ⟨.struct #[⟨"x", 2, 0, false, "", "runtime", 0⟩, ⟨"y", 3, 1, false, "", "runtime", 8⟩, ⟨"signed", 4, 2, false, "", "runtime", 16⟩, ⟨"code", 6, 3, false, "", "runtime", 17⟩], 4, 24, .agg #[.int .i64 0, .int .i64 0, .bool false, .int .u8 0], false⟩),
 (8, ⟨.struct #[⟨"x", 2, 0, false, "", "runtime", 0⟩, ⟨"y", 3, 1, false, "", "runtime", 8⟩, ⟨"signed", 4, 2, false, "", "runtime", 16⟩, ⟨"code", 6, 3, false, "", "runtime", 17⟩], 4, 24, .agg #[.int .i64 0, .int .i64 0, .bool false, .int .u8 0], false⟩),
 (9,⟨.string,1,16,.string ByteArray.empty,false⟩),
 (10,⟨.string,1,16,.string ByteArray.empty,false⟩),
 (11,⟨.string,1,16,.string ByteArray.empty,false⟩),
 (12,⟨.int .u64,1,8,.int .u64 0,false⟩),
 (13, ⟨.struct #[⟨"msg", 9, 0, false, "", "runtime", 0⟩, ⟨"addr", 12, 1, false, "", "runtime", 16⟩], 2, 24, .agg #[.string ByteArray.empty, .int .u64 0], false⟩),
 (14, ⟨.struct #[⟨"msg", 9, 0, false, "", "runtime", 0⟩, ⟨"addr", 12, 1, false, "", "runtime", 16⟩], 2, 24, .agg #[.string ByteArray.empty, .int .u64 0], false⟩),
 (15,⟨.pointer 170,1,8,.pointer none,false⟩),
 (16,⟨.pointer 173,1,8,.pointer none,false⟩),
 (17,⟨.pointer 180,1,8,.pointer none,false⟩),
 (18, ⟨.struct #[⟨"typ", 17, 0, false, "", "internal/runtime/maps", 0⟩], 1, 8, .agg #[.pointer none], false⟩),
 (19, ⟨.struct #[⟨"typ", 17, 0, false, "", "internal/runtime/maps", 0⟩], 1, 8, .agg #[.pointer none], false⟩),
 (20,⟨.interface #[],1,16,.nilIface,false⟩),
 (21,⟨.int .i32,1,4,.int .i32 0,false⟩),
 (22,⟨.int .u16,1,2,.int .u16 0,false⟩),
 (24,⟨.int .i64,1,8,.int .i64 0,false⟩),
 (25,⟨.slice 27,1,24,.slice none 0 0,false⟩),
 (26, ⟨.struct #[⟨"Kind", 3, 0, false, "", "", 0⟩, ⟨"Name", 9, 1, false, "", "", 8⟩, ⟨"Int", 2, 2, false, "", "", 24⟩, ⟨"Op", 3, 3, false, "", "", 32⟩, ⟨"Kids", 25, 4, false, "", "", 40⟩], 5, 64, .agg #[.int .i64 0, .string ByteArray.empty, .int .i64 0, .int .i64 0, .slice none 0 0], false⟩),
 (27, ⟨.struct #[⟨"Kind", 3, 0, false, "", "", 0⟩, ⟨"Name", 9, 1, false, "", "", 8⟩, ⟨"Int", 2, 2, false, "", "", 24⟩, ⟨"Op", 3, 3, false, "", "", 32⟩, ⟨"Kids", 25, 4, false, "", "", 40⟩], 5, 64, .agg #[.int .i64 0, .string ByteArray.empty, .int .i64 0, .int .i64 0, .slice none 0 0], false⟩),
 (31,⟨.array 6 5,6,6,.agg #[.int .u8 0,.int .u8 0,.int .u8 0,.int .u8 0,.int .u8 0,.int .u8 0],false⟩),
 (32,⟨.array 5 5,5,5,.agg #[.int .u8 0,.int .u8 0,.int .u8 0,.int .u8 0,.int .u8 0],false⟩),
 (33,⟨.slice 9,1,24,.slice none 0 0,false⟩),
 (45,⟨.pointer 50,1,8,.pointer none,false⟩),
 (46,⟨.slice 74,1,24,.slice none 0 0,false⟩),
 (47, ⟨.struct #[⟨"fn", 4, 0, false, "", "knapsack/parser", 0⟩, ⟨"loop", 4, 1, false, "", "knapsack/parser", 1⟩, ⟨"gen", 4, 2, false, "", "knapsack/parser", 2⟩, ⟨"async", 4, 3, false, "", "knapsack/parser", 3⟩], 4, 4, .agg #[.bool false, .bool false, .bool false, .bool false], false⟩),
 (48, ⟨.struct #[⟨"fn", 4, 0, false, "", "knapsack/parser", 0⟩, ⟨"loop", 4, 1, false, "", "knapsack/parser", 1⟩, ⟨"gen", 4, 2, false, "", "knapsack/parser", 2⟩, ⟨"async", 4, 3, false, "", "knapsack/parser", 3⟩], 4, 4, .agg #[.bool false, .bool false, .bool false, .bool false], true⟩),
 (49, ⟨.struct #[⟨"list", 46, 0, false, "", "knapsack/parser", 0⟩, ⟨"at", 3, 1, false, "", "knapsack/parser", 24⟩, ⟨"context", 48, 2, true, "", "knapsack/parser", 32⟩], 6, 40, .agg #[.slice none 0 0, .int .i64 0, .bool false, .bool false, .bool false, .bool false], false⟩),
 (50, ⟨.struct #[⟨"list", 46, 0, false, "", "knapsack/parser", 0⟩, ⟨"at", 3, 1, false, "", "knapsack/parser", 24⟩, ⟨"context", 48, 2, true, "", "knapsack/parser", 32⟩], 6, 40, .agg #[.slice none 0 0, .int .i64 0, .bool false, .bool false, .bool false, .bool false], false⟩),
 (57,⟨.pointer 60,1,8,.pointer none,false⟩),
 (58,⟨.slice 5,1,24,.slice none 0 0,false⟩),
 (59, ⟨.struct #[⟨"addr", 57, 0, false, "", "strings", 0⟩, ⟨"buf", 58, 1, false, "", "strings", 8⟩], 2, 32, .agg #[.pointer none, .slice none 0 0], false⟩),
 (60, ⟨.struct #[⟨"addr", 57, 0, false, "", "strings", 0⟩, ⟨"buf", 58, 1, false, "", "strings", 8⟩], 2, 32, .agg #[.pointer none, .slice none 0 0], false⟩),
 (61, ⟨.struct #[⟨"b", 60, 0, false, "", "knapsack/parser", 0⟩], 2, 32, .agg #[.pointer none, .slice none 0 0], false⟩),
 (62, ⟨.struct #[⟨"b", 60, 0, false, "", "knapsack/parser", 0⟩], 2, 32, .agg #[.pointer none, .slice none 0 0], false⟩),
 (70,⟨.struct #[],0,0,.agg #[],false⟩),
 (71,⟨.struct #[],0,0,.agg #[],true⟩),
 (73, ⟨.struct #[⟨"Kind", 3, 0, false, "", "", 0⟩, ⟨"Text", 9, 1, false, "", "", 8⟩, ⟨"At", 3, 2, false, "", "", 24⟩], 3, 32, .agg #[.int .i64 0, .string ByteArray.empty, .int .i64 0], false⟩),
 (74, ⟨.struct #[⟨"Kind", 3, 0, false, "", "", 0⟩, ⟨"Text", 9, 1, false, "", "", 8⟩, ⟨"At", 3, 2, false, "", "", 24⟩], 3, 32, .agg #[.int .i64 0, .string ByteArray.empty, .int .i64 0], true⟩),
 (84,⟨.pointer 62,1,8,.pointer none,false⟩),
 (88, ⟨.interface #[("Error", 65)], 1, 16, .nilIface, false⟩),
 (89, ⟨.interface #[("Error", 65)], 1, 16, .nilIface, false⟩),
 (92,⟨.pointer 5,1,8,.pointer none,false⟩),
 (108,⟨.slice 110,1,24,.slice none 0 0,false⟩),
 (110,⟨.slice 3,1,24,.slice none 0 0,false⟩),
 (113,⟨.unsafePointer,1,8,.pointer none,false⟩),
 (122,⟨.int .u64,1,8,.int .u64 0,false⟩),
 (125, ⟨.struct #[⟨"lo", 5, 0, false, "", "unicode/utf8", 0⟩, ⟨"hi", 5, 1, false, "", "unicode/utf8", 1⟩], 2, 2, .agg #[.int .u8 0, .int .u8 0], false⟩),
 (126, ⟨.struct #[⟨"lo", 5, 0, false, "", "unicode/utf8", 0⟩, ⟨"hi", 5, 1, false, "", "unicode/utf8", 1⟩], 2, 2, .agg #[.int .u8 0, .int .u8 0], false⟩),
 (133,⟨.int .u64,1,8,.int .u64 0,false⟩),
 (146,⟨.int .u32,1,4,.int .u32 0,false⟩),
 (153,⟨.int .i64,1,8,.int .i64 0,false⟩),
 (156,⟨.pointer 162,1,8,.pointer none,false⟩),
 (161, ⟨.struct #[⟨"Func", 9, 0, false, "", "", 0⟩, ⟨"Num", 9, 1, false, "", "", 16⟩, ⟨"Err", 89, 2, false, "", "", 32⟩], 3, 48, .agg #[.string ByteArray.empty, .string ByteArray.empty, .nilIface], false⟩),
 (162, ⟨.struct #[⟨"Func", 9, 0, false, "", "", 0⟩, ⟨"Num", 9, 1, false, "", "", 16⟩, ⟨"Err", 89, 2, false, "", "", 32⟩], 3, 48, .agg #[.string ByteArray.empty, .string ByteArray.empty, .nilIface], false⟩),
 (166,⟨.pointer 168,1,8,.pointer none,false⟩),
 (167, ⟨.struct #[⟨"s", 9, 0, false, "", "errors", 0⟩], 1, 16, .agg #[.string ByteArray.empty], false⟩),
 (168, ⟨.struct #[⟨"s", 9, 0, false, "", "errors", 0⟩], 1, 16, .agg #[.string ByteArray.empty], false⟩),
 (169, ⟨.struct #[⟨"_interface", 17, 0, false, "", "runtime", 0⟩, ⟨"concrete", 17, 1, false, "", "runtime", 8⟩, ⟨"asserted", 17, 2, false, "", "runtime", 16⟩, ⟨"missingMethod", 9, 3, false, "", "runtime", 24⟩], 4, 40, .agg #[.pointer none, .pointer none, .pointer none, .string ByteArray.empty], false⟩),
 (170, ⟨.struct #[⟨"_interface", 17, 0, false, "", "runtime", 0⟩, ⟨"concrete", 17, 1, false, "", "runtime", 8⟩, ⟨"asserted", 17, 2, false, "", "runtime", 16⟩, ⟨"missingMethod", 9, 3, false, "", "runtime", 24⟩], 4, 40, .agg #[.pointer none, .pointer none, .pointer none, .string ByteArray.empty], false⟩),
 (172, ⟨.struct #[⟨"_", 171, 0, false, "", "runtime", 0⟩], 0, 0, .agg #[], false⟩),
 (173, ⟨.struct #[⟨"_", 171, 0, false, "", "runtime", 0⟩], 0, 0, .agg #[], false⟩),
 (174,⟨.int .u8,1,1,.int .u8 0,false⟩),
 (175,⟨.int .u8,1,1,.int .u8 0,false⟩),
 (177,⟨.int .i32,1,4,.int .i32 0,false⟩),
 (178,⟨.int .i32,1,4,.int .i32 0,false⟩),
 (179, ⟨.struct #[⟨"Size_", 12, 0, false, "", "", 0⟩, ⟨"PtrBytes", 12, 1, false, "", "", 8⟩, ⟨"Hash", 146, 2, false, "", "", 16⟩, ⟨"TFlag", 174, 3, false, "", "", 20⟩, ⟨"Align_", 5, 4, false, "", "", 21⟩, ⟨"FieldAlign_", 5, 5, false, "", "", 22⟩, ⟨"Kind_", 175, 6, false, "", "", 23⟩, ⟨"Equal", 176, 7, false, "", "", 24⟩, ⟨"GCData", 92, 8, false, "", "", 32⟩, ⟨"Str", 177, 9, false, "", "", 40⟩, ⟨"PtrToThis", 178, 10, false, "", "", 44⟩], 11, 48, .agg #[.int .u64 0, .int .u64 0, .int .u32 0, .int .u8 0, .int .u8 0, .int .u8 0, .int .u8 0, .nilFunc, .pointer none, .int .i32 0, .int .i32 0], false⟩),
 (180, ⟨.struct #[⟨"Size_", 12, 0, false, "", "", 0⟩, ⟨"PtrBytes", 12, 1, false, "", "", 8⟩, ⟨"Hash", 146, 2, false, "", "", 16⟩, ⟨"TFlag", 174, 3, false, "", "", 20⟩, ⟨"Align_", 5, 4, false, "", "", 21⟩, ⟨"FieldAlign_", 5, 5, false, "", "", 22⟩, ⟨"Kind_", 175, 6, false, "", "", 23⟩, ⟨"Equal", 176, 7, false, "", "", 24⟩, ⟨"GCData", 92, 8, false, "", "", 32⟩, ⟨"Str", 177, 9, false, "", "", 40⟩, ⟨"PtrToThis", 178, 10, false, "", "", 44⟩], 11, 48, .agg #[.int .u64 0, .int .u64 0, .int .u32 0, .int .u8 0, .int .u8 0, .int .u8 0, .int .u8 0, .nilFunc, .pointer none, .int .i32 0, .int .i32 0], false⟩)]
theorem zz4:z5z Tryz.prog z3s:=by
 unfold z3s;exact ⟨⟨⟨by kernel_rfl,by kernel_rfl⟩,(fun h=>by cases h)⟩,⟨⟨by kernel_rfl,by kernel_rfl⟩,(fun h=>by cases h)⟩,⟨⟨by kernel_rfl,by kernel_rfl⟩,(fun h=>by cases h)⟩,⟨⟨by kernel_rfl,by kernel_rfl⟩,(fun h=>by cases h)⟩,⟨⟨by kernel_rfl,by kernel_rfl⟩,(fun h=>by cases h)⟩,⟨⟨by kernel_rfl,by kernel_rfl⟩,(fun h=>by cases h)⟩,⟨⟨by kernel_rfl,by kernel_rfl⟩,(fun h=>by cases h)⟩,⟨⟨by kernel_rfl,by kernel_rfl⟩,(fun h=>by cases h)⟩,⟨⟨by kernel_rfl,by kernel_rfl⟩,(fun h=>by cases h)⟩,⟨⟨by kernel_rfl,by kernel_rfl⟩,(fun h=>by cases h)⟩,⟨⟨by kernel_rfl,by kernel_rfl⟩,(fun h=>by cases h)⟩,⟨⟨by kernel_rfl,by kernel_rfl⟩,(fun h=>by cases h)⟩,⟨⟨by kernel_rfl,by kernel_rfl⟩,(fun h=>by cases h)⟩,⟨⟨by kernel_rfl,by kernel_rfl⟩,(fun h=>by cases h)⟩,⟨⟨by kernel_rfl,by kernel_rfl⟩,(fun h=>by cases h)⟩,⟨⟨by kernel_rfl,by kernel_rfl⟩,(fun h=>by cases h)⟩,⟨⟨by kernel_rfl,by kernel_rfl⟩,(fun h=>by cases h)⟩,⟨⟨by kernel_rfl,by kernel_rfl⟩,(fun h=>by cases h)⟩,⟨⟨by kernel_rfl,by kernel_rfl⟩,(fun h=>by cases h)⟩,⟨⟨by kernel_rfl,by kernel_rfl⟩,(fun h=>by cases h)⟩,⟨⟨by kernel_rfl,by kernel_rfl⟩,(fun h=>by cases h)⟩,⟨⟨by kernel_rfl,by kernel_rfl⟩,(fun h=>by cases h)⟩,⟨⟨by kernel_rfl,by kernel_rfl⟩,(fun h=>by cases h)⟩,⟨⟨by kernel_rfl,by kernel_rfl⟩,(fun h=>by cases h)⟩,⟨⟨by kernel_rfl,by kernel_rfl⟩,(fun h=>by cases h)⟩,⟨⟨by kernel_rfl,by kernel_rfl⟩,(fun h=>by cases h)⟩,⟨⟨by kernel_rfl,by kernel_rfl⟩,(fun h=>by cases h)⟩,⟨⟨by kernel_rfl,by kernel_rfl⟩,(fun h=>by cases h)⟩,⟨⟨by kernel_rfl,by kernel_rfl⟩,(fun h=>by cases h)⟩,⟨⟨by kernel_rfl,by kernel_rfl⟩,(fun h=>by cases h)⟩,⟨⟨by kernel_rfl,by kernel_rfl⟩,(fun h=>by cases h)⟩,⟨⟨by kernel_rfl,by kernel_rfl⟩,fun _=>⟨by kernel_rfl,by kernel_rfl⟩⟩,⟨⟨by kernel_rfl,by kernel_rfl⟩,(fun h=>by cases h)⟩,⟨⟨by kernel_rfl,by kernel_rfl⟩,(fun h=>by cases h)⟩,⟨⟨by kernel_rfl,by kernel_rfl⟩,(fun h=>by cases h)⟩,⟨⟨by kernel_rfl,by kernel_rfl⟩,(fun h=>by cases h)⟩,⟨⟨by kernel_rfl,by kernel_rfl⟩,(fun h=>by cases h)⟩,⟨⟨by kernel_rfl,by kernel_rfl⟩,(fun h=>by cases h)⟩,⟨⟨by kernel_rfl,by kernel_rfl⟩,(fun h=>by cases h)⟩,⟨⟨by kernel_rfl,by kernel_rfl⟩,(fun h=>by cases h)⟩,⟨⟨by kernel_rfl,by kernel_rfl⟩,(fun h=>by cases h)⟩,⟨⟨by kernel_rfl,by kernel_rfl⟩,fun _=>⟨by kernel_rfl,by kernel_rfl⟩⟩,⟨⟨by kernel_rfl,by kernel_rfl⟩,(fun h=>by cases h)⟩,⟨⟨by kernel_rfl,by kernel_rfl⟩,fun _=>⟨by kernel_rfl,by kernel_rfl⟩⟩,⟨⟨by kernel_rfl,by kernel_rfl⟩,(fun h=>by cases h)⟩,⟨⟨by kernel_rfl,by kernel_rfl⟩,(fun h=>by cases h)⟩,⟨⟨by kernel_rfl,by kernel_rfl⟩,(fun h=>by cases h)⟩,⟨⟨by kernel_rfl,by kernel_rfl⟩,(fun h=>by cases h)⟩,⟨⟨by kernel_rfl,by kernel_rfl⟩,(fun h=>by cases h)⟩,⟨⟨by kernel_rfl,by kernel_rfl⟩,(fun h=>by cases h)⟩,⟨⟨by kernel_rfl,by kernel_rfl⟩,(fun h=>by cases h)⟩,⟨⟨by kernel_rfl,by kernel_rfl⟩,(fun h=>by cases h)⟩,⟨⟨by kernel_rfl,by kernel_rfl⟩,(fun h=>by cases h)⟩,⟨⟨by kernel_rfl,by kernel_rfl⟩,(fun h=>by cases h)⟩,⟨⟨by kernel_rfl,by kernel_rfl⟩,(fun h=>by cases h)⟩,⟨⟨by kernel_rfl,by kernel_rfl⟩,(fun h=>by cases h)⟩,⟨⟨by kernel_rfl,by kernel_rfl⟩,(fun h=>by cases h)⟩,⟨⟨by kernel_rfl,by kernel_rfl⟩,(fun h=>by cases h)⟩,⟨⟨by kernel_rfl,by kernel_rfl⟩,(fun h=>by cases h)⟩,⟨⟨by kernel_rfl,by kernel_rfl⟩,(fun h=>by cases h)⟩,⟨⟨by kernel_rfl,by kernel_rfl⟩,(fun h=>by cases h)⟩,⟨⟨by kernel_rfl,by kernel_rfl⟩,(fun h=>by cases h)⟩,⟨⟨by kernel_rfl,by kernel_rfl⟩,(fun h=>by cases h)⟩,⟨⟨by kernel_rfl,by kernel_rfl⟩,(fun h=>by cases h)⟩,⟨⟨by kernel_rfl,by kernel_rfl⟩,(fun h=>by cases h)⟩,⟨⟨by kernel_rfl,by kernel_rfl⟩,(fun h=>by cases h)⟩,⟨⟨by kernel_rfl,by kernel_rfl⟩,(fun h=>by cases h)⟩,⟨⟨by kernel_rfl,by kernel_rfl⟩,(fun h=>by cases h)⟩,⟨⟨by kernel_rfl,by kernel_rfl⟩,(fun h=>by cases h)⟩,⟨⟨by kernel_rfl,by kernel_rfl⟩,(fun h=>by cases h)⟩,⟨⟨by kernel_rfl,by kernel_rfl⟩,(fun h=>by cases h)⟩,⟨⟨by kernel_rfl,by kernel_rfl⟩,(fun h=>by cases h)⟩,⟨⟨by kernel_rfl,by kernel_rfl⟩,(fun h=>by cases h)⟩,trivial⟩
def tyT:TT:=zxr z3s
theorem zaa:TOk Tryz.prog tyT:=z2b _ zz4
theorem mixed:Tryz.prog.follows .mixedOrders=true:=by kernel_rfl
end Go.Proofs.YtcfecmeocimclaaGreatDoor
