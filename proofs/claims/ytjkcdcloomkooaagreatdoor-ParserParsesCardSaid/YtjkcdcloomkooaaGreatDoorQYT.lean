/- Own work: walks and laws of the parser and its reference. -/
import Derived.Test.YtjkcdcloomkooaaGreatDoorProg
import Derived.Test.YtjkcdcloomkooaaGreatDoorQYB
import Derived.Test.YtjkcdcloomkooaaGreatDoorQYP
import Derived.Shelf.Strings.Builder1
import Derived.Shelf.Small.Strs
import Derived.Shelf.Strings.BuilderF
import Derived.Shelf.Strings.BuilderK
import Derived.Shelf.Strings.BuilderRune
import Derived.Shelf.Strconv.Itoa0
import Derived.Shelf.Strconv.Itoa1
import Derived.Shelf.LaysM
import Derived.Shelf.Strconv.Itoa2
import Derived.Shelf.Strconv.Itoa3
import Derived.Shelf.Strconv.ParseIntEmpty
import Derived.Shelf.Strconv.Clone
import Derived.Shelf.Strconv.SyntaxError
import Derived.Shelf.LaysC
import Derived.Shelf.Strconv.ToError
import Derived.Shelf.Strconv.Lower
import Derived.Shelf.Strconv.ParseUint10
import Derived.Shelf.Strconv.ParseUint10Empty
import Derived.Shelf.Strconv.ParseUint10Any
import Derived.Shelf.Strconv.ParseInt10
import Derived.Shelf.Strconv.RangeError
import Derived.Shelf.Strconv.ToErrorRange
import Derived.Shelf.Strconv.ParseUintEmpty
import Derived.Shelf.Strconv.ParseUint10b64
import Derived.Shelf.Strconv.ParseUint10b32
import Derived.Shelf.Strconv.ParseUint10b16
import Derived.Shelf.Strconv.ParseUint10b8
import Derived.Shelf.Strconv.ParseUint10At
import Derived.Shelf.Strconv.ParseInt10At64
import Derived.Shelf.Strconv.ParseInt10At32
import Derived.Shelf.Strconv.ParseInt10At16
import Derived.Shelf.Strconv.ParseInt10At8
import Derived.Shelf.Strconv.ParseInt10All
import Derived.Shelf.Strconv.ParseIntPublic10
import Derived.Shelf.Strconv.ErrVarParseInt
import Derived.Shelf.Strings.Search1
import Derived.Shelf.Strings.Search2
import Derived.Shelf.Strings.Search3
import Derived.Shelf.Strings.Shaped
import Derived.Shelf.Strings.Prefix
import Derived.Shelf.Strings.BuilderCap
import Derived.Ground.NamesProg
import Derived.Shelf.Unicode.ValidAny
set_option linter.unusedVariables false
set_option linter.unusedSimpArgs false
set_option linter.unusedSectionVars false
set_option maxHeartbeats 4000000
set_option maxRecDepth 100000
namespace Go.Proofs.YtjkcdcloomkooaaGreatDoor
open Go.RowKit
def PM:List (Nat×TI)->Nat->Option TI
 |[],_=>none
 |(k,i)::r,t=>if k=t then some i else PM r t
def Hf(P:Program):List (Nat×TI)->Prop
 |[]=>True
 |(t,i)::r=>((P.underlying t=some i.desc/\(P.info? t).map (fun j=>(j.zero,j.size,j.bytes))=some (some i.zero,i.size,i.bytes))/\(i.cmp=true->P.stoodInHeld t=false/\P.eqGuardType P.depth t=false))/\Hf P r
theorem Tr{P:Program}:∀l:List (Nat×TI),Hf P l->iE P (PM l)
 |[],_,t,i,h=>by simp[PM]at h
 |(k,j)::r,hh,t,i,h=>by
  unfold PM at h
  split at h
  ·rename_i e;subst e
   cases h
   exact hh.1
  ·exact Tr r hh.2 t i h
def Hl:List (Nat×TI):=[
 (2,⟨.int .i64,1,8,.int .i64 0,false⟩),
 (3,⟨.int .i64,1,8,.int .i64 0,false⟩),
 (4,⟨.bool,1,1,.bool false,false⟩),
 (5,⟨.int .u8,1,1,.int .u8 0,false⟩),
 (6,⟨.int .u8,1,1,.int .u8 0,false⟩),
 (7, ⟨.struct #[⟨"x", 2, 0, false, "", "runtime", 0⟩, ⟨"y", 3, 1, false, "", "runtime", 8⟩, ⟨"signed", 4, 2, false, "", "runtime", 16⟩, ⟨"code", 6, 3, false, "", "runtime", 17⟩], 4, 24, .agg #[.int .i64 0, .int .i64 0, .bool false, .int .u8 0], false⟩),
 (8, ⟨.struct #[⟨"x", 2, 0, false, "", "runtime", 0⟩, ⟨"y", 3, 1, false, "", "runtime", 8⟩, ⟨"signed", 4, 2, false, "", "runtime", 16⟩, ⟨"code", 6, 3, false, "", "runtime", 17⟩], 4, 24, .agg #[.int .i64 0, .int .i64 0, .bool false, .int .u8 0], false⟩),
 (9,⟨.string,1,16,.string ByteArray.empty,false⟩),
 (10,⟨.string,1,16,.string ByteArray.empty,false⟩),
 (11,⟨.string,1,16,.string ByteArray.empty,false⟩),
 (12,⟨.int .u64,1,8,.int .u64 0,false⟩),
 (13, ⟨.struct #[⟨"msg", 9, 0, false, "", "runtime", 0⟩, ⟨"addr", 12, 1, false, "", "runtime", 16⟩], 2, 24, .agg #[.string ByteArray.empty, .int .u64 0], false⟩),
 (14, ⟨.struct #[⟨"msg", 9, 0, false, "", "runtime", 0⟩, ⟨"addr", 12, 1, false, "", "runtime", 16⟩], 2, 24, .agg #[.string ByteArray.empty, .int .u64 0], false⟩),
 (15,⟨.pointer 164,1,8,.pointer none,false⟩),
 (16,⟨.pointer 167,1,8,.pointer none,false⟩),
 (17,⟨.pointer 174,1,8,.pointer none,false⟩),
 (18, ⟨.struct #[⟨"typ", 17, 0, false, "", "internal/runtime/maps", 0⟩], 1, 8, .agg #[.pointer none], false⟩),
 (19, ⟨.struct #[⟨"typ", 17, 0, false, "", "internal/runtime/maps", 0⟩], 1, 8, .agg #[.pointer none], false⟩),
 (20,⟨.interface #[],1,16,.nilIface,false⟩),
 (21,⟨.int .i32,1,4,.int .i32 0,false⟩),
 (23,⟨.slice 25,1,24,.slice none 0 0,false⟩),
 (24, ⟨.struct #[⟨"Kind", 3, 0, false, "", "", 0⟩, ⟨"Name", 9, 1, false, "", "", 8⟩, ⟨"Int", 2, 2, false, "", "", 24⟩, ⟨"Op", 3, 3, false, "", "", 32⟩, ⟨"Kids", 23, 4, false, "", "", 40⟩], 5, 64, .agg #[.int .i64 0, .string ByteArray.empty, .int .i64 0, .int .i64 0, .slice none 0 0], false⟩),
 (25, ⟨.struct #[⟨"Kind", 3, 0, false, "", "", 0⟩, ⟨"Name", 9, 1, false, "", "", 8⟩, ⟨"Int", 2, 2, false, "", "", 24⟩, ⟨"Op", 3, 3, false, "", "", 32⟩, ⟨"Kids", 23, 4, false, "", "", 40⟩], 5, 64, .agg #[.int .i64 0, .string ByteArray.empty, .int .i64 0, .int .i64 0, .slice none 0 0], false⟩),
 (26,⟨.int .i64,1,8,.int .i64 0,false⟩),
 (34,⟨.pointer 39,1,8,.pointer none,false⟩),
 (35,⟨.slice 59,1,24,.slice none 0 0,false⟩),
 (36, ⟨.struct #[⟨"fn", 4, 0, false, "", "knapsack/parser", 0⟩, ⟨"loop", 4, 1, false, "", "knapsack/parser", 1⟩, ⟨"gen", 4, 2, false, "", "knapsack/parser", 2⟩, ⟨"async", 4, 3, false, "", "knapsack/parser", 3⟩], 4, 4, .agg #[.bool false, .bool false, .bool false, .bool false], false⟩),
 (37, ⟨.struct #[⟨"fn", 4, 0, false, "", "knapsack/parser", 0⟩, ⟨"loop", 4, 1, false, "", "knapsack/parser", 1⟩, ⟨"gen", 4, 2, false, "", "knapsack/parser", 2⟩, ⟨"async", 4, 3, false, "", "knapsack/parser", 3⟩], 4, 4, .agg #[.bool false, .bool false, .bool false, .bool false], true⟩),
 (38, ⟨.struct #[⟨"list", 35, 0, false, "", "knapsack/parser", 0⟩, ⟨"at", 3, 1, false, "", "knapsack/parser", 24⟩, ⟨"context", 37, 2, true, "", "knapsack/parser", 32⟩], 6, 40, .agg #[.slice none 0 0, .int .i64 0, .bool false, .bool false, .bool false, .bool false], false⟩),
 (39, ⟨.struct #[⟨"list", 35, 0, false, "", "knapsack/parser", 0⟩, ⟨"at", 3, 1, false, "", "knapsack/parser", 24⟩, ⟨"context", 37, 2, true, "", "knapsack/parser", 32⟩], 6, 40, .agg #[.slice none 0 0, .int .i64 0, .bool false, .bool false, .bool false, .bool false], false⟩),
 (45, ⟨.struct #[⟨"l", 35, 0, false, "", "knapsack/knapsackref26", 0⟩, ⟨"i", 3, 1, false, "", "knapsack/knapsackref26", 24⟩, ⟨"bad", 4, 2, false, "", "knapsack/knapsackref26", 32⟩], 3, 40, .agg #[.slice none 0 0, .int .i64 0, .bool false], false⟩),
 (46, ⟨.struct #[⟨"l", 35, 0, false, "", "knapsack/knapsackref26", 0⟩, ⟨"i", 3, 1, false, "", "knapsack/knapsackref26", 24⟩, ⟨"bad", 4, 2, false, "", "knapsack/knapsackref26", 32⟩], 3, 40, .agg #[.slice none 0 0, .int .i64 0, .bool false], false⟩),
 (55,⟨.struct #[],0,0,.agg #[],false⟩),
 (56,⟨.struct #[],0,0,.agg #[],true⟩),
 (58, ⟨.struct #[⟨"Kind", 3, 0, false, "", "", 0⟩, ⟨"Text", 9, 1, false, "", "", 8⟩, ⟨"At", 3, 2, false, "", "", 24⟩], 3, 32, .agg #[.int .i64 0, .string ByteArray.empty, .int .i64 0], false⟩),
 (59, ⟨.struct #[⟨"Kind", 3, 0, false, "", "", 0⟩, ⟨"Text", 9, 1, false, "", "", 8⟩, ⟨"At", 3, 2, false, "", "", 24⟩], 3, 32, .agg #[.int .i64 0, .string ByteArray.empty, .int .i64 0], true⟩),
 (66,⟨.pointer 46,1,8,.pointer none,false⟩),
 (69, ⟨.struct #[⟨"Loop", 4, 0, false, "", "", 0⟩, ⟨"Func", 4, 1, false, "", "", 1⟩, ⟨"Yield", 4, 2, false, "", "", 2⟩, ⟨"Await", 4, 3, false, "", "", 3⟩], 4, 4, .agg #[.bool false, .bool false, .bool false, .bool false], false⟩),
 (70, ⟨.struct #[⟨"Loop", 4, 0, false, "", "", 0⟩, ⟨"Func", 4, 1, false, "", "", 1⟩, ⟨"Yield", 4, 2, false, "", "", 2⟩, ⟨"Await", 4, 3, false, "", "", 3⟩], 4, 4, .agg #[.bool false, .bool false, .bool false, .bool false], true⟩),
 (93,⟨.slice 9,1,24,.slice none 0 0,false⟩),
 (95,⟨.slice 97,1,24,.slice none 0 0,false⟩),
 (97,⟨.slice 3,1,24,.slice none 0 0,false⟩),
 (106, ⟨.struct #[⟨"lo", 5, 0, false, "", "unicode/utf8", 0⟩, ⟨"hi", 5, 1, false, "", "unicode/utf8", 1⟩], 2, 2, .agg #[.int .u8 0, .int .u8 0], false⟩),
 (107, ⟨.struct #[⟨"lo", 5, 0, false, "", "unicode/utf8", 0⟩, ⟨"hi", 5, 1, false, "", "unicode/utf8", 1⟩], 2, 2, .agg #[.int .u8 0, .int .u8 0], false⟩),
 (109,⟨.int .u64,1,8,.int .u64 0,false⟩),
 (110, ⟨.interface #[("Error", 77)], 1, 16, .nilIface, false⟩),
 (111, ⟨.interface #[("Error", 77)], 1, 16, .nilIface, false⟩),
 (114,⟨.pointer 117,1,8,.pointer none,false⟩),
 (115,⟨.slice 5,1,24,.slice none 0 0,false⟩),
 (116, ⟨.struct #[⟨"addr", 114, 0, false, "", "strings", 0⟩, ⟨"buf", 115, 1, false, "", "strings", 8⟩], 2, 32, .agg #[.pointer none, .slice none 0 0], false⟩),
 (117, ⟨.struct #[⟨"addr", 114, 0, false, "", "strings", 0⟩, ⟨"buf", 115, 1, false, "", "strings", 8⟩], 2, 32, .agg #[.pointer none, .slice none 0 0], false⟩),
 (121,⟨.int .u64,1,8,.int .u64 0,false⟩),
 (125,⟨.pointer 5,1,8,.pointer none,false⟩),
 (129,⟨.int .u32,1,4,.int .u32 0,false⟩),
 (132,⟨.int .i64,1,8,.int .i64 0,false⟩),
 (135,⟨.pointer 144,1,8,.pointer none,false⟩),
 (139,⟨.unsafePointer,1,8,.pointer none,false⟩),
 (143, ⟨.struct #[⟨"Func", 9, 0, false, "", "", 0⟩, ⟨"Num", 9, 1, false, "", "", 16⟩, ⟨"Err", 111, 2, false, "", "", 32⟩], 3, 48, .agg #[.string ByteArray.empty, .string ByteArray.empty, .nilIface], false⟩),
 (144, ⟨.struct #[⟨"Func", 9, 0, false, "", "", 0⟩, ⟨"Num", 9, 1, false, "", "", 16⟩, ⟨"Err", 111, 2, false, "", "", 32⟩], 3, 48, .agg #[.string ByteArray.empty, .string ByteArray.empty, .nilIface], false⟩),
 (146,⟨.pointer 148,1,8,.pointer none,false⟩),
 (147, ⟨.struct #[⟨"s", 9, 0, false, "", "errors", 0⟩], 1, 16, .agg #[.string ByteArray.empty], false⟩),
 (148, ⟨.struct #[⟨"s", 9, 0, false, "", "errors", 0⟩], 1, 16, .agg #[.string ByteArray.empty], false⟩),
 (163, ⟨.struct #[⟨"_interface", 17, 0, false, "", "runtime", 0⟩, ⟨"concrete", 17, 1, false, "", "runtime", 8⟩, ⟨"asserted", 17, 2, false, "", "runtime", 16⟩, ⟨"missingMethod", 9, 3, false, "", "runtime", 24⟩], 4, 40, .agg #[.pointer none, .pointer none, .pointer none, .string ByteArray.empty], false⟩),
 (164, ⟨.struct #[⟨"_interface", 17, 0, false, "", "runtime", 0⟩, ⟨"concrete", 17, 1, false, "", "runtime", 8⟩, ⟨"asserted", 17, 2, false, "", "runtime", 16⟩, ⟨"missingMethod", 9, 3, false, "", "runtime", 24⟩], 4, 40, .agg #[.pointer none, .pointer none, .pointer none, .string ByteArray.empty], false⟩),
 (166, ⟨.struct #[⟨"_", 165, 0, false, "", "runtime", 0⟩], 0, 0, .agg #[], false⟩),
 (167, ⟨.struct #[⟨"_", 165, 0, false, "", "runtime", 0⟩], 0, 0, .agg #[], false⟩),
 (168,⟨.int .u8,1,1,.int .u8 0,false⟩),
 (169,⟨.int .u8,1,1,.int .u8 0,false⟩),
 (171,⟨.int .i32,1,4,.int .i32 0,false⟩),
 (172,⟨.int .i32,1,4,.int .i32 0,false⟩),
 (173, ⟨.struct #[⟨"Size_", 12, 0, false, "", "", 0⟩, ⟨"PtrBytes", 12, 1, false, "", "", 8⟩, ⟨"Hash", 129, 2, false, "", "", 16⟩, ⟨"TFlag", 168, 3, false, "", "", 20⟩, ⟨"Align_", 5, 4, false, "", "", 21⟩, ⟨"FieldAlign_", 5, 5, false, "", "", 22⟩, ⟨"Kind_", 169, 6, false, "", "", 23⟩, ⟨"Equal", 170, 7, false, "", "", 24⟩, ⟨"GCData", 125, 8, false, "", "", 32⟩, ⟨"Str", 171, 9, false, "", "", 40⟩, ⟨"PtrToThis", 172, 10, false, "", "", 44⟩], 11, 48, .agg #[.int .u64 0, .int .u64 0, .int .u32 0, .int .u8 0, .int .u8 0, .int .u8 0, .int .u8 0, .nilFunc, .pointer none, .int .i32 0, .int .i32 0], false⟩),
 (174, ⟨.struct #[⟨"Size_", 12, 0, false, "", "", 0⟩, ⟨"PtrBytes", 12, 1, false, "", "", 8⟩, ⟨"Hash", 129, 2, false, "", "", 16⟩, ⟨"TFlag", 168, 3, false, "", "", 20⟩, ⟨"Align_", 5, 4, false, "", "", 21⟩, ⟨"FieldAlign_", 5, 5, false, "", "", 22⟩, ⟨"Kind_", 169, 6, false, "", "", 23⟩, ⟨"Equal", 170, 7, false, "", "", 24⟩, ⟨"GCData", 125, 8, false, "", "", 32⟩, ⟨"Str", 171, 9, false, "", "", 40⟩, ⟨"PtrToThis", 172, 10, false, "", "", 44⟩], 11, 48, .agg #[.int .u64 0, .int .u64 0, .int .u32 0, .int .u8 0, .int .u8 0, .int .u8 0, .int .u8 0, .nilFunc, .pointer none, .int .i32 0, .int .i32 0], false⟩)]
theorem z66:Hf Tryz.prog Hl:=by
 unfold Hl;exact⟨⟨⟨kR,kR⟩,(nofun)⟩,⟨⟨kR,kR⟩,(nofun)⟩,⟨⟨kR,kR⟩,(nofun)⟩,⟨⟨kR,kR⟩,(nofun)⟩,⟨⟨kR,kR⟩,(nofun)⟩,⟨⟨kR,kR⟩,(nofun)⟩,⟨⟨kR,kR⟩,(nofun)⟩,⟨⟨kR,kR⟩,(nofun)⟩,⟨⟨kR,kR⟩,(nofun)⟩,⟨⟨kR,kR⟩,(nofun)⟩,⟨⟨kR,kR⟩,(nofun)⟩,⟨⟨kR,kR⟩,(nofun)⟩,⟨⟨kR,kR⟩,(nofun)⟩,⟨⟨kR,kR⟩,(nofun)⟩,⟨⟨kR,kR⟩,(nofun)⟩,⟨⟨kR,kR⟩,(nofun)⟩,⟨⟨kR,kR⟩,(nofun)⟩,⟨⟨kR,kR⟩,(nofun)⟩,⟨⟨kR,kR⟩,(nofun)⟩,⟨⟨kR,kR⟩,(nofun)⟩,⟨⟨kR,kR⟩,(nofun)⟩,⟨⟨kR,kR⟩,(nofun)⟩,⟨⟨kR,kR⟩,(nofun)⟩,⟨⟨kR,kR⟩,(nofun)⟩,⟨⟨kR,kR⟩,(nofun)⟩,⟨⟨kR,kR⟩,(nofun)⟩,⟨⟨kR,kR⟩,(nofun)⟩,⟨⟨kR,kR⟩,fun _=>⟨kR,kR⟩⟩,⟨⟨kR,kR⟩,(nofun)⟩,⟨⟨kR,kR⟩,(nofun)⟩,⟨⟨kR,kR⟩,(nofun)⟩,⟨⟨kR,kR⟩,(nofun)⟩,⟨⟨kR,kR⟩,(nofun)⟩,⟨⟨kR,kR⟩,fun _=>⟨kR,kR⟩⟩,⟨⟨kR,kR⟩,(nofun)⟩,⟨⟨kR,kR⟩,fun _=>⟨kR,kR⟩⟩,⟨⟨kR,kR⟩,(nofun)⟩,⟨⟨kR,kR⟩,(nofun)⟩,⟨⟨kR,kR⟩,fun _=>⟨kR,kR⟩⟩,⟨⟨kR,kR⟩,(nofun)⟩,⟨⟨kR,kR⟩,(nofun)⟩,⟨⟨kR,kR⟩,(nofun)⟩,⟨⟨kR,kR⟩,(nofun)⟩,⟨⟨kR,kR⟩,(nofun)⟩,⟨⟨kR,kR⟩,(nofun)⟩,⟨⟨kR,kR⟩,(nofun)⟩,⟨⟨kR,kR⟩,(nofun)⟩,⟨⟨kR,kR⟩,(nofun)⟩,⟨⟨kR,kR⟩,(nofun)⟩,⟨⟨kR,kR⟩,(nofun)⟩,⟨⟨kR,kR⟩,(nofun)⟩,⟨⟨kR,kR⟩,(nofun)⟩,⟨⟨kR,kR⟩,(nofun)⟩,⟨⟨kR,kR⟩,(nofun)⟩,⟨⟨kR,kR⟩,(nofun)⟩,⟨⟨kR,kR⟩,(nofun)⟩,⟨⟨kR,kR⟩,(nofun)⟩,⟨⟨kR,kR⟩,(nofun)⟩,⟨⟨kR,kR⟩,(nofun)⟩,⟨⟨kR,kR⟩,(nofun)⟩,⟨⟨kR,kR⟩,(nofun)⟩,⟨⟨kR,kR⟩,(nofun)⟩,⟨⟨kR,kR⟩,(nofun)⟩,⟨⟨kR,kR⟩,(nofun)⟩,⟨⟨kR,kR⟩,(nofun)⟩,⟨⟨kR,kR⟩,(nofun)⟩,⟨⟨kR,kR⟩,(nofun)⟩,⟨⟨kR,kR⟩,(nofun)⟩,⟨⟨kR,kR⟩,(nofun)⟩,⟨⟨kR,kR⟩,(nofun)⟩,⟨⟨kR,kR⟩,(nofun)⟩,⟨⟨kR,kR⟩,(nofun)⟩,trivial⟩
def cO:TT:=PM Hl
theorem aU:iE Tryz.prog cO:=Tr _ z66
theorem mixed:Tryz.prog.follows .mixedOrders=true:=cM
theorem u4(n:Int):IntKind.u8.wrap n=n%256:=by
 have e1:((2:Int) ^ IntKind.u8.bits)=256:=aN
 have e3:IntKind.u8.signed=false:=rfl;exact Uw
theorem YZ:∀c:Fin 64,(128 |||c.val)=128+c.val/\(c.val<32->(192 |||c.val)=192+c.val)/\(c.val<16->(224 |||c.val)=224+c.val)/\(c.val<8->(240 |||c.val)=240+c.val):=aN
theorem xfx:∀c:Fin 256,(c.val &&& 63)=c.val%64:=aN
theorem PX(k x:Int)(h0:0<=x)(h1:x<256)(k0:0<=k)(k1:k<256):bG.bor .u8 k x=((k.toNat |||x.toNat:Nat):Int):=by
 show IntKind.u8.wrap ((BitVec.ofInt 8 k) |||BitVec.ofInt 8 x).toNat=_;have e:(BitVec.ofInt 8 k).toNat=k.toNat:=by
  grind
 have e':(BitVec.ofInt 8 x).toNat=x.toNat:=by
  grind
 rw[BitVec.toNat_or,e,e',u4]
 have:(k.toNat |||x.toNat)<2 ^ 8:=Nat.or_lt_two_pow oM oM
 omega
theorem UH(x:Int)(h0:0<=x)(h1:x<256):bG.band .u8 x 63=x%64:=by
 show IntKind.u8.wrap ((BitVec.ofInt 8 x) &&& BitVec.ofInt 8 63).toNat=_;have e':(BitVec.ofInt 8 x).toNat=x.toNat:=by
  grind
 have e:(BitVec.ofInt 8 63).toNat=63:=aN
 rw[BitVec.toNat_and,e,e',u4];have h:=xfx ⟨x.toNat,by omega⟩
 grind
theorem KA(x:Int):bG.bor .u8 128 (bG.band .u8 (bG.wrap .u8 x) 63)=128+x%64:=by
 have hw:bG.wrap .u8 x=x%256:=u4 x;rw[hw,UH _ oM oM,PX _ _ oM oM oM oM]
 have h:=(YZ ⟨(x%64).toNat,by omega⟩).1
 grind
theorem TF(x:Int)(h0:0<=x)(h1:x<32):bG.bor .u8 192 (bG.wrap .u8 x)=192+x:=by
 have hw:bG.wrap .u8 x=x%256:=u4 x;rw[hw,PX _ _ oM oM oM oM]
 have h:=(YZ ⟨x.toNat,by omega⟩).2.1 aX
 grind
theorem Si(x:Int)(h0:0<=x)(h1:x<16):bG.bor .u8 224 (bG.wrap .u8 x)=224+x:=by
 have hw:bG.wrap .u8 x=x%256:=u4 x;rw[hw,PX _ _ oM oM oM oM]
 have h:=(YZ ⟨x.toNat,by omega⟩).2.2.1 aX
 grind
theorem TE(x:Int)(h0:0<=x)(h1:x<8):bG.bor .u8 240 (bG.wrap .u8 x)=240+x:=by
 have hw:bG.wrap .u8 x=x%256:=u4 x;rw[hw,PX _ _ oM oM oM oM]
 have h:=(YZ ⟨x.toNat,by omega⟩).2.2.2 (by show x.toNat<8;omega)
 grind
def lR(l:List UInt8):List (List PV):=l.map fun b=>[.v (.int .u8 (b.toNat:Nat))]
theorem NW(l:List UInt8):(lR l).length=l.length:=by unfold lR;rw[nk]
theorem Od(a b:List UInt8):lR (a++b)=lR a++lR b:=by unfold lR;rw[List.map_append]
theorem xer(zs:List Int)(h:∀x∈zs,0<=x/\x<256):lR (zs.map fun x=>x.toNat.toUInt8)=zs.map fun x=>[.v (.int .u8 x)]:=by
 unfold lR;rw[Dp];refine List.map_congr_left fun x hx=>?_
 have:=h x hx
 show [PV.v (.int .u8 ((x.toNat.toUInt8).toNat:Nat))]=_;have e:(x.toNat.toUInt8).toNat=x.toNat:=by
  simp_all
 grind
theorem ZN(r:Int):lR (Utf8.encode r).data.toList=(Lib.encodeRuneZ r).map fun x=>[.v (.int .u8 x)]:=by
 rw[Na,zw];exact xer _ (Lib.encodeRuneZ_byte r)
end Go.Proofs.YtjkcdcloomkooaaGreatDoor
namespace Go.Proofs
open Go.Proofs.YtjkcdcloomkooaaGreatDoor
open Go.Shelf
def Tryz.lays169_ren:Go.Shelf.Ren:=⟨fun|169=>133|n=>n,fun|70=>114|9=>9|0=>0|72=>117|37=>115|127=>125|3=>3|5=>5|n=>n,fun|n=>n⟩
theorem Tryz.Builder_Extra_169:Builder.Extra Tryz.prog Tryz.lays169_ren:={
 sizeBuilder:=cM
 liesBuilder:=cM
 t5:=Tryz.underlying5
 a5:=Tryz.isAgg5
 z5:=Tryz.sizeOf5
 v5:=Tryz.zeroValue5
 infoByte:=cM
 cellsByte:=cM
 sizeByte:=cM
 neB5:=by decide }
def Tryz.lays137_ren:Go.Shelf.Ren:=⟨fun|137=>114|217=>129|266=>140|n=>n,fun|9=>9|5=>5|3=>3|n=>n,fun|n=>n⟩
theorem Tryz.lays137:Go.Proofs.Lays.n137 Tryz.prog Tryz.lays137_ren:={
 mixed:=cM
 f137:=Tryz.func114.trans (aG some kR)
 f217:=Tryz.func129.trans (aG some kR)
 f266:=Tryz.func140.trans (aG some kR)
 t3:=Tryz.underlying3
 a3:=Tryz.isAgg3
 z3:=Tryz.sizeOf3
 v3:=Tryz.zeroValue3
 t5:=Tryz.underlying5
 a5:=Tryz.isAgg5
 z5:=Tryz.sizeOf5
 v5:=Tryz.zeroValue5
 t9:=Tryz.underlying9
 a9:=Tryz.isAgg9
 z9:=Tryz.sizeOf9
 v9:=Tryz.zeroValue9 }
open Go.RowKit in
theorem Tryz.strings_IndexByte(s:ByteArray)(c:Int)(w:World):
  Calls Tryz.prog 114 #[.string s,.int .u8 c] w fun e w'=>e=.returned (.int .i64 (Lib.indexByte s.data.toList c.toNat.toUInt8))/\w'=w:=Any.strings_IndexByte Tryz.lays137 s c w
def Tryz.laysC245_ren:Go.Shelf.Ren:=⟨fun|245=>145|279=>157|280=>158|281=>159|282=>160|316=>169|171=>171|205=>170|243=>175|246=>176|283=>177|284=>178|285=>179|286=>180|129=>182|317=>181|318=>183|319=>184|320=>185|337=>186|338=>187|n=>n,fun|9=>9|3=>3|75=>111|167=>132|4=>4|168=>135|210=>144|37=>115|0=>0|127=>125|145=>148|143=>146|2=>2|171=>150|53=>121|5=>5|173=>153|212=>156|51=>129|20=>20|213=>157|46=>109|232=>161|233=>162|80=>77|n=>n,fun|15=>3|16=>4|17=>5|18=>6|19=>7|n=>n⟩
theorem Tryz.laysC245:Go.Proofs.LaysC.n245 Tryz.prog Tryz.laysC245_ren:={
 mixed:=cM
 f129:=Tryz.func182.trans (aG some kR)
 f171:=Tryz.func171.trans (aG some kR)
 f205:=Tryz.func170.trans (aG some kR)
 f243:=Tryz.func175.trans (aG some kR)
 f245:=Tryz.func145.trans (aG some kR)
 f246:=Tryz.func176.trans (aG some kR)
 f279:=Tryz.func157.trans (aG some kR)
 f280:=Tryz.func158.trans (aG some kR)
 f281:=Tryz.func159.trans (aG some kR)
 f282:=Tryz.func160.trans (aG some kR)
 f283:=Tryz.func177.trans (aG some kR)
 f284:=Tryz.func178.trans (aG some kR)
 f285:=Tryz.func179.trans (aG some kR)
 f286:=Tryz.func180.trans (aG some kR)
 f316:=Tryz.func169.trans (aG some kR)
 f317:=Tryz.func181.trans (aG some kR)
 f318:=Tryz.func183.trans (aG some kR)
 f319:=Tryz.func184.trans (aG some kR)
 f320:=Tryz.func185.trans (aG some kR)
 f337:=Tryz.func186.trans (aG some kR)
 f338:=Tryz.func187.trans (aG some kR)
 t0:=Tryz.underlying0
 a0:=Tryz.isAgg0
 z0:=Tryz.sizeOf0
 v0:=Tryz.zeroValue0
 t2:=Tryz.underlying2
 a2:=Tryz.isAgg2
 z2:=Tryz.sizeOf2
 v2:=Tryz.zeroValue2
 t3:=Tryz.underlying3
 a3:=Tryz.isAgg3
 z3:=Tryz.sizeOf3
 v3:=Tryz.zeroValue3
 t4:=Tryz.underlying4
 a4:=Tryz.isAgg4
 z4:=Tryz.sizeOf4
 v4:=Tryz.zeroValue4
 t5:=Tryz.underlying5
 a5:=Tryz.isAgg5
 z5:=Tryz.sizeOf5
 v5:=Tryz.zeroValue5
 t9:=Tryz.underlying9
 a9:=Tryz.isAgg9
 z9:=Tryz.sizeOf9
 v9:=Tryz.zeroValue9
 t20:=Tryz.underlying20
 a20:=Tryz.isAgg20
 z20:=Tryz.sizeOf20
 v20:=Tryz.zeroValue20
 t37:=Tryz.underlying115
 a37:=Tryz.isAgg115
 z37:=Tryz.sizeOf115
 v37:=Tryz.zeroValue115
 t46:=Tryz.underlying109
 a46:=Tryz.isAgg109
 z46:=Tryz.sizeOf109
 v46:=Tryz.zeroValue109
 t51:=Tryz.underlying129
 a51:=Tryz.isAgg129
 z51:=Tryz.sizeOf129
 v51:=Tryz.zeroValue129
 t53:=Tryz.underlying121
 a53:=Tryz.isAgg121
 z53:=Tryz.sizeOf121
 v53:=Tryz.zeroValue121
 t75:=Tryz.underlying111
 a75:=Tryz.isAgg111
 z75:=Tryz.sizeOf111
 v75:=Tryz.zeroValue111
 t127:=Tryz.underlying125
 a127:=Tryz.isAgg125
 z127:=Tryz.sizeOf125
 v127:=Tryz.zeroValue125
 t143:=Tryz.underlying146
 a143:=Tryz.isAgg146
 z143:=Tryz.sizeOf146
 v143:=Tryz.zeroValue146
 t145:=Tryz.underlying148
 a145:=Tryz.isAgg148
 z145:=Tryz.sizeOf148
 v145:=Tryz.zeroValue148
 t167:=Tryz.underlying132
 a167:=Tryz.isAgg132
 z167:=Tryz.sizeOf132
 v167:=Tryz.zeroValue132
 t168:=Tryz.underlying135
 a168:=Tryz.isAgg135
 z168:=Tryz.sizeOf135
 v168:=Tryz.zeroValue135
 t171:=Tryz.underlying150
 a171:=Tryz.isAgg150
 z171:=Tryz.sizeOf150
 v171:=Tryz.zeroValue150
 t173:=Tryz.underlying153
 a173:=Tryz.isAgg153
 z173:=Tryz.sizeOf153
 v173:=Tryz.zeroValue153
 t210:=Tryz.underlying144
 a210:=Tryz.isAgg144
 z210:=Tryz.sizeOf144
 v210:=Tryz.zeroValue144
 t212:=Tryz.underlying156
 a212:=Tryz.isAgg156
 z212:=Tryz.sizeOf156
 v212:=Tryz.zeroValue156
 t213:=Tryz.underlying157
 a213:=Tryz.isAgg157
 z213:=Tryz.sizeOf157
 t232:=Tryz.underlying161
 a232:=Tryz.isAgg161
 z232:=Tryz.sizeOf161
 v232:=Tryz.zeroValue161
 t233:=Tryz.underlying162
 a233:=Tryz.isAgg162
 z233:=Tryz.sizeOf162
 v233:=Tryz.zeroValue162
 g15:=cM
 g16:=cM
 g17:=cM
 g18:=cM
 g19:=cM
 t80:=Tryz.underlying77
 a80:=Tryz.isAgg77
 z80:=Tryz.sizeOf77
 v80:=Tryz.zeroValue77
 i0:=cM
 i2:=cM
 i3:=cM
 i4:=cM
 i5:=cM
 i9:=cM
 i20:=cM
 i37:=cM
 i46:=cM
 i51:=cM
 i53:=cM
 i75:=cM
 i80:=cM
 i127:=cM
 i143:=cM
 i145:=cM
 i167:=cM
 i168:=cM
 i171:=cM
 i173:=cM
 i210:=cM
 i212:=cM
 i232:=cM
 i233:=cM
 m15:=cM
 m16:=cM
 m17:=cM
 m18:=cM
 m19:=cM
 c0:=cM
 c2:=cM
 c3:=cM
 c4:=cM
 c5:=cM
 c9:=cM
 c20:=cM
 c37:=cM
 c46:=cM
 c51:=cM
 c53:=cM
 c75:=cM
 c80:=cM
 c127:=cM
 c143:=cM
 c145:=cM
 c167:=cM
 c168:=cM
 c171:=cM
 c173:=cM
 c210:=cM
 c212:=cM
 c213:=cM
 c232:=cM
 c233:=by kernel_rfl }
open Go.RowKit in
theorem Tryz.strconv_toError_syntax(fn s:ByteArray)(base bits:Int)(ev:Value)(w:World)(zO:s.size<=281474976710656)(hv:w.cell? ⟨3,0,none⟩=some ev)(uv:ev=.nilIface\/∃te pe,ev=.iface te pe):
  Calls Tryz.prog 145 #[.string fn,.string s,.int .i64 base,.int .i64 bits,.iface 132 (.int .i64 2)] w fun e w'=>∃N,e=.returned (.iface 135 (.pointer (some ⟨N,0,none⟩)))/\w.heap.size<=N/\w'.heap[N]?=some (.cells #[.string fn,.string s,ev] 144 (0,0))/\Below w.heap.size w w':=Any.strconv_toError_syntax Tryz.laysC245 fn s base bits ev w zO hv uv
def Tryz.laysC174_ren:Go.Shelf.Ren:=⟨fun|174=>131|247=>144|245=>145|287=>156|279=>157|280=>158|281=>159|282=>160|321=>167|322=>168|316=>169|171=>171|205=>170|243=>175|246=>176|283=>177|284=>178|285=>179|286=>180|129=>182|317=>181|318=>183|319=>184|320=>185|337=>186|338=>187|n=>n,fun|9=>9|3=>3|2=>2|75=>111|85=>112|4=>4|167=>132|5=>5|53=>121|175=>133|46=>109|168=>135|37=>115|0=>0|210=>144|21=>21|127=>125|145=>148|143=>146|171=>150|173=>153|212=>156|51=>129|20=>20|213=>157|232=>161|233=>162|80=>77|n=>n,fun|15=>3|16=>4|17=>5|18=>6|19=>7|n=>n⟩
theorem Tryz.laysC174:Go.Proofs.LaysC.n174 Tryz.prog Tryz.laysC174_ren:={
 mixed:=cM
 f129:=Tryz.func182.trans (aG some kR)
 f171:=Tryz.func171.trans (aG some kR)
 f174:=Tryz.func131.trans (aG some kR)
 f205:=Tryz.func170.trans (aG some kR)
 f243:=Tryz.func175.trans (aG some kR)
 f245:=Tryz.func145.trans (aG some kR)
 f246:=Tryz.func176.trans (aG some kR)
 f247:=Tryz.func144.trans (aG some kR)
 f279:=Tryz.func157.trans (aG some kR)
 f280:=Tryz.func158.trans (aG some kR)
 f281:=Tryz.func159.trans (aG some kR)
 f282:=Tryz.func160.trans (aG some kR)
 f283:=Tryz.func177.trans (aG some kR)
 f284:=Tryz.func178.trans (aG some kR)
 f285:=Tryz.func179.trans (aG some kR)
 f286:=Tryz.func180.trans (aG some kR)
 f287:=Tryz.func156.trans (aG some kR)
 f316:=Tryz.func169.trans (aG some kR)
 f317:=Tryz.func181.trans (aG some kR)
 f318:=Tryz.func183.trans (aG some kR)
 f319:=Tryz.func184.trans (aG some kR)
 f320:=Tryz.func185.trans (aG some kR)
 f321:=Tryz.func167.trans (aG some kR)
 f322:=Tryz.func168.trans (aG some kR)
 f337:=Tryz.func186.trans (aG some kR)
 f338:=Tryz.func187.trans (aG some kR)
 t0:=Tryz.underlying0
 a0:=Tryz.isAgg0
 z0:=Tryz.sizeOf0
 v0:=Tryz.zeroValue0
 t2:=Tryz.underlying2
 a2:=Tryz.isAgg2
 z2:=Tryz.sizeOf2
 v2:=Tryz.zeroValue2
 t3:=Tryz.underlying3
 a3:=Tryz.isAgg3
 z3:=Tryz.sizeOf3
 v3:=Tryz.zeroValue3
 t4:=Tryz.underlying4
 a4:=Tryz.isAgg4
 z4:=Tryz.sizeOf4
 v4:=Tryz.zeroValue4
 t5:=Tryz.underlying5
 a5:=Tryz.isAgg5
 z5:=Tryz.sizeOf5
 v5:=Tryz.zeroValue5
 t9:=Tryz.underlying9
 a9:=Tryz.isAgg9
 z9:=Tryz.sizeOf9
 v9:=Tryz.zeroValue9
 t20:=Tryz.underlying20
 a20:=Tryz.isAgg20
 z20:=Tryz.sizeOf20
 v20:=Tryz.zeroValue20
 t21:=Tryz.underlying21
 a21:=Tryz.isAgg21
 z21:=Tryz.sizeOf21
 v21:=Tryz.zeroValue21
 t37:=Tryz.underlying115
 a37:=Tryz.isAgg115
 z37:=Tryz.sizeOf115
 v37:=Tryz.zeroValue115
 t46:=Tryz.underlying109
 a46:=Tryz.isAgg109
 z46:=Tryz.sizeOf109
 v46:=Tryz.zeroValue109
 t51:=Tryz.underlying129
 a51:=Tryz.isAgg129
 z51:=Tryz.sizeOf129
 v51:=Tryz.zeroValue129
 t53:=Tryz.underlying121
 a53:=Tryz.isAgg121
 z53:=Tryz.sizeOf121
 v53:=Tryz.zeroValue121
 t75:=Tryz.underlying111
 a75:=Tryz.isAgg111
 z75:=Tryz.sizeOf111
 v75:=Tryz.zeroValue111
 t85:=Tryz.underlying112
 a85:=Tryz.isAgg112
 z85:=Tryz.sizeOf112
 v85:=Tryz.zeroValue112
 t127:=Tryz.underlying125
 a127:=Tryz.isAgg125
 z127:=Tryz.sizeOf125
 v127:=Tryz.zeroValue125
 t143:=Tryz.underlying146
 a143:=Tryz.isAgg146
 z143:=Tryz.sizeOf146
 v143:=Tryz.zeroValue146
 t145:=Tryz.underlying148
 a145:=Tryz.isAgg148
 z145:=Tryz.sizeOf148
 v145:=Tryz.zeroValue148
 t167:=Tryz.underlying132
 a167:=Tryz.isAgg132
 z167:=Tryz.sizeOf132
 v167:=Tryz.zeroValue132
 t168:=Tryz.underlying135
 a168:=Tryz.isAgg135
 z168:=Tryz.sizeOf135
 v168:=Tryz.zeroValue135
 t171:=Tryz.underlying150
 a171:=Tryz.isAgg150
 z171:=Tryz.sizeOf150
 v171:=Tryz.zeroValue150
 t173:=Tryz.underlying153
 a173:=Tryz.isAgg153
 z173:=Tryz.sizeOf153
 v173:=Tryz.zeroValue153
 t175:=Tryz.underlying133
 a175:=Tryz.isAgg133
 z175:=Tryz.sizeOf133
 v175:=Tryz.zeroValue133
 t210:=Tryz.underlying144
 a210:=Tryz.isAgg144
 z210:=Tryz.sizeOf144
 v210:=Tryz.zeroValue144
 t212:=Tryz.underlying156
 a212:=Tryz.isAgg156
 z212:=Tryz.sizeOf156
 v212:=Tryz.zeroValue156
 t213:=Tryz.underlying157
 a213:=Tryz.isAgg157
 z213:=Tryz.sizeOf157
 t232:=Tryz.underlying161
 a232:=Tryz.isAgg161
 z232:=Tryz.sizeOf161
 v232:=Tryz.zeroValue161
 t233:=Tryz.underlying162
 a233:=Tryz.isAgg162
 z233:=Tryz.sizeOf162
 v233:=Tryz.zeroValue162
 g15:=cM
 g16:=cM
 g17:=cM
 g18:=cM
 g19:=cM
 t80:=Tryz.underlying77
 a80:=Tryz.isAgg77
 z80:=Tryz.sizeOf77
 v80:=Tryz.zeroValue77
 i0:=cM
 i2:=cM
 i3:=cM
 i4:=cM
 i5:=cM
 i9:=cM
 i20:=cM
 i21:=cM
 i37:=cM
 i46:=cM
 i51:=cM
 i53:=cM
 i75:=cM
 i80:=cM
 i85:=cM
 i127:=cM
 i143:=cM
 i145:=cM
 i167:=cM
 i168:=cM
 i171:=cM
 i173:=cM
 i175:=cM
 i210:=cM
 i212:=cM
 i232:=cM
 i233:=cM
 m15:=cM
 m16:=cM
 m17:=cM
 m18:=cM
 m19:=cM
 c0:=cM
 c2:=cM
 c3:=cM
 c4:=cM
 c5:=cM
 c9:=cM
 c20:=cM
 c21:=cM
 c37:=cM
 c46:=cM
 c51:=cM
 c53:=cM
 c75:=cM
 c80:=cM
 c85:=cM
 c127:=cM
 c143:=cM
 c145:=cM
 c167:=cM
 c168:=cM
 c171:=cM
 c173:=cM
 c175:=cM
 c210:=cM
 c212:=cM
 c213:=cM
 c232:=cM
 c233:=by kernel_rfl }
open Go.RowKit in
theorem Tryz.strconv_ParseInt_10_at64_ok(s:ByteArray)(Lw:s.size<=9223372036854775806)(v:Int)(h:Lib.parseIntB 64 s.data.toList=.ok v)(w:World):
  Calls Tryz.prog 131 #[.string s,.int .i64 10,.int .i64 64] w fun e w'=>e=.returned (.tuple #[.int .i64 v,.nilIface])/\(w'=w\/∃t,w'=Lib.bytesWorld w 5 t):=Any.strconv_ParseInt_10_at64_ok Tryz.laysC174 s Lw v h w
open Go.RowKit in
theorem Tryz.strconv_ParseInt_10_at64_range_var (s : ByteArray) (zO : s.size ≤ 281474976710656) (h : Lib.parseIntB 64 s.data.toList = .range) (tp : TypeId) (p : Value) (w : World) (y6 : w.var? Tryz.prog "strconv.ErrRange" = some #[.iface tp p]) :
  Calls Tryz.prog 131 #[.string s,.int .i64 10,.int .i64 64] w fun e w'=>∃N,e=.returned (.tuple #[.int .i64 (Lib.intSat 64 s.data.toList),.iface 135 (.pointer (some ⟨N,0,none⟩))])/\w.heap.size<=N/\w'.heap[N]?=some (.cells #[.string ⟨#[80,97,114,115,101,73,110,116]⟩,.string s,.iface tp p] 144 (0,0))/\Below w.heap.size w w':=Any.strconv_ParseInt_10_at64_range_var Tryz.laysC174 s zO h tp p w y6
def Tryz.lays143_ren:Go.Shelf.Ren:=⟨fun|143=>115|219=>130|217=>129|225=>141|224=>142|267=>143|266=>140|314=>155|n=>n,fun|9=>9|3=>3|4=>4|5=>5|46=>109|146=>130|51=>129|n=>n,fun|1=>2|n=>n⟩
theorem Tryz.lays143:Go.Proofs.Lays.n143 Tryz.prog Tryz.lays143_ren:={
 mixed:=cM
 f143:=Tryz.func115.trans (aG some kR)
 f217:=Tryz.func129.trans (aG some kR)
 f219:=Tryz.func130.trans (aG some kR)
 f224:=Tryz.func142.trans (aG some kR)
 f225:=Tryz.func141.trans (aG some kR)
 f266:=Tryz.func140.trans (aG some kR)
 f267:=Tryz.func143.trans (aG some kR)
 f314:=Tryz.func155.trans (aG some kR)
 t3:=Tryz.underlying3
 a3:=Tryz.isAgg3
 z3:=Tryz.sizeOf3
 v3:=Tryz.zeroValue3
 t4:=Tryz.underlying4
 a4:=Tryz.isAgg4
 z4:=Tryz.sizeOf4
 v4:=Tryz.zeroValue4
 t5:=Tryz.underlying5
 a5:=Tryz.isAgg5
 z5:=Tryz.sizeOf5
 v5:=Tryz.zeroValue5
 t9:=Tryz.underlying9
 a9:=Tryz.isAgg9
 z9:=Tryz.sizeOf9
 v9:=Tryz.zeroValue9
 t46:=Tryz.underlying109
 a46:=Tryz.isAgg109
 z46:=Tryz.sizeOf109
 v46:=Tryz.zeroValue109
 t51:=Tryz.underlying129
 a51:=Tryz.isAgg129
 z51:=Tryz.sizeOf129
 v51:=Tryz.zeroValue129
 t146:=Tryz.underlying130
 a146:=Tryz.isAgg130
 z146:=Tryz.sizeOf130
 v146:=Tryz.zeroValue130
 g1:=by kernel_rfl }
open Go.RowKit Go.Lib in
theorem Tryz.strings_Index(s sub:ByteArray)(m:Int)(w:World)(hs:s.size<4294967281)(hm:w.cell? ⟨2,0,none⟩=some (.int .i64 m)):
  Calls Tryz.prog 115 #[.string s,.string sub] w fun e w'=>e=.returned (.int .i64 (Lib.index s.data.toList sub.data.toList))/\w'=w:=Any.strings_Index Tryz.lays143 s sub m w hs hm
def Tryz.lays99_ren:Go.Shelf.Ren:=⟨fun|99=>113|206=>128|n=>n,fun|9=>9|4=>4|3=>3|n=>n,fun|n=>n⟩
theorem Tryz.lays99:Go.Proofs.Lays.n99 Tryz.prog Tryz.lays99_ren:={
 mixed:=cM
 f99:=Tryz.func113.trans (aG some kR)
 f206:=Tryz.func128.trans (aG some kR)
 t3:=Tryz.underlying3
 a3:=Tryz.isAgg3
 z3:=Tryz.sizeOf3
 v3:=Tryz.zeroValue3
 t4:=Tryz.underlying4
 a4:=Tryz.isAgg4
 z4:=Tryz.sizeOf4
 v4:=Tryz.zeroValue4
 t9:=Tryz.underlying9
 a9:=Tryz.isAgg9
 z9:=Tryz.sizeOf9
 v9:=Tryz.zeroValue9 }
open Go.RowKit Go.Lib in
theorem Tryz.strings_HasPrefix(s p:ByteArray)(w:World):
  Calls Tryz.prog 113 #[.string s,.string p] w fun e w'=>e=.returned (.bool (Lib.hasPrefix s.data.toList p.data.toList))/\w'=w:=Any.strings_HasPrefix Tryz.lays99 s p w
end Go.Proofs
namespace Go.Proofs.YtjkcdcloomkooaaGreatDoor
end Go.Proofs.YtjkcdcloomkooaaGreatDoor
namespace Go.Proofs
open Go.Proofs.YtjkcdcloomkooaaGreatDoor
open Go.Shelf
def Tryz.laysValid_ren:Go.Shelf.Ren:=⟨fun|196=>107|259=>126|n=>n,fun|9=>9|4=>4|3=>3|5=>5|12=>12|119=>105|0=>0|46=>109|139=>108|138=>107|53=>121|n=>n,fun|3=>0|4=>1|n=>n⟩
theorem Tryz.laysValid:Go.Proofs.Lays.n196 Tryz.prog Tryz.laysValid_ren:={
 mixed:=cM
 f196:=Tryz.func107.trans (aG some kR)
 f259:=Tryz.func126.trans (aG some kR)
 t0:=Tryz.underlying0
 a0:=Tryz.isAgg0
 z0:=Tryz.sizeOf0
 v0:=Tryz.zeroValue0
 t3:=Tryz.underlying3
 a3:=Tryz.isAgg3
 z3:=Tryz.sizeOf3
 v3:=Tryz.zeroValue3
 t4:=Tryz.underlying4
 a4:=Tryz.isAgg4
 z4:=Tryz.sizeOf4
 v4:=Tryz.zeroValue4
 t5:=Tryz.underlying5
 a5:=Tryz.isAgg5
 z5:=Tryz.sizeOf5
 v5:=Tryz.zeroValue5
 t9:=Tryz.underlying9
 a9:=Tryz.isAgg9
 z9:=Tryz.sizeOf9
 v9:=Tryz.zeroValue9
 t12:=Tryz.underlying12
 a12:=Tryz.isAgg12
 z12:=Tryz.sizeOf12
 v12:=Tryz.zeroValue12
 t46:=Tryz.underlying109
 a46:=Tryz.isAgg109
 z46:=Tryz.sizeOf109
 v46:=Tryz.zeroValue109
 t53:=Tryz.underlying121
 a53:=Tryz.isAgg121
 z53:=Tryz.sizeOf121
 v53:=Tryz.zeroValue121
 t119:=Tryz.underlying105
 a119:=Tryz.isAgg105
 z119:=Tryz.sizeOf105
 t138:=Tryz.underlying107
 a138:=Tryz.isAgg107
 z138:=Tryz.sizeOf107
 v138:=Tryz.zeroValue107
 t139:=Tryz.underlying108
 a139:=Tryz.isAgg108
 z139:=Tryz.sizeOf108
 v139:=Tryz.zeroValue108
 g3:=cM
 g4:=by kernel_rfl }
end Go.Proofs
namespace Go.Proofs.YtjkcdcloomkooaaGreatDoor
end Go.Proofs.YtjkcdcloomkooaaGreatDoor
namespace Go.Proofs
open Go.Proofs.YtjkcdcloomkooaaGreatDoor
open Go.Shelf
def Tryz.laysM143_ren:Go.Shelf.Ren:=⟨fun|143=>115|219=>130|217=>129|225=>141|224=>142|267=>143|266=>140|314=>155|n=>n,fun|9=>9|3=>3|4=>4|5=>5|46=>109|146=>130|51=>129|n=>n,fun|1=>2|n=>n⟩
theorem Tryz.laysM143:Go.Proofs.LaysM.n143 Tryz.prog Tryz.laysM143_ren:={
 mixed:=cM
 f143:=Tryz.func115.trans (aG some kR)
 f217:=Tryz.func129.trans (aG some kR)
 f219:=Tryz.func130.trans (aG some kR)
 f224:=Tryz.func142.trans (aG some kR)
 f225:=Tryz.func141.trans (aG some kR)
 f266:=Tryz.func140.trans (aG some kR)
 f267:=Tryz.func143.trans (aG some kR)
 f314:=Tryz.func155.trans (aG some kR)
 t3:=Tryz.underlying3
 a3:=Tryz.isAgg3
 z3:=Tryz.sizeOf3
 v3:=Tryz.zeroValue3
 t4:=Tryz.underlying4
 a4:=Tryz.isAgg4
 z4:=Tryz.sizeOf4
 v4:=Tryz.zeroValue4
 t5:=Tryz.underlying5
 a5:=Tryz.isAgg5
 z5:=Tryz.sizeOf5
 v5:=Tryz.zeroValue5
 t9:=Tryz.underlying9
 a9:=Tryz.isAgg9
 z9:=Tryz.sizeOf9
 v9:=Tryz.zeroValue9
 t46:=Tryz.underlying109
 a46:=Tryz.isAgg109
 z46:=Tryz.sizeOf109
 v46:=Tryz.zeroValue109
 t51:=Tryz.underlying129
 a51:=Tryz.isAgg129
 z51:=Tryz.sizeOf129
 v51:=Tryz.zeroValue129
 t146:=Tryz.underlying130
 a146:=Tryz.isAgg130
 z146:=Tryz.sizeOf130
 v146:=Tryz.zeroValue130
 g1:=cM
 i3:=cM
 i4:=cM
 i5:=cM
 i9:=cM
 i46:=cM
 i51:=cM
 i146:=cM
 m1:=cM
 s1_3:=fun w h=>Go.Proofs.cell_of_shapedOpen_int (zero:=#[.int .i64 0]) (t:=3) h (of_decide_eq_true kR) kR rfl kR kR Tryz.underlying3 }
end Go.Proofs
namespace Go.Proofs.YtjkcdcloomkooaaGreatDoor
end Go.Proofs.YtjkcdcloomkooaaGreatDoor
