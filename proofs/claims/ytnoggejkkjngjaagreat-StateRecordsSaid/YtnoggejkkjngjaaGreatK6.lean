/- The closed facts on the types and functions of this seat, each asked of the kernel. Written by tyinst.py. No condition. -/
import Derived.Test.YtnoggejkkjngjaaGreatK5
import Derived.Test.YtnoggejkkjngjaaGreatChecked
set_option maxRecDepth 100000
namespace Go.Proofs.YtnoggejkkjngjaaGreat
open Go Go.Sl
instance : TSize Tryz.prog 3 1 := ⟨by kernel_rfl⟩
instance : TCell Tryz.prog 3 := ⟨by kernel_rfl⟩
instance : TZero Tryz.prog 3 [.int .i64 0] := ⟨by kernel_rfl⟩
instance : TInt Tryz.prog 3 .i64 := ⟨by kernel_rfl⟩
instance : TSize Tryz.prog 4 1 := ⟨by kernel_rfl⟩
instance : TCell Tryz.prog 4 := ⟨by kernel_rfl⟩
instance : TSize Tryz.prog 5 1 := ⟨by kernel_rfl⟩
instance : TBytes Tryz.prog 5 1 := ⟨by kernel_rfl⟩
instance : TCell Tryz.prog 5 := ⟨by kernel_rfl⟩
instance : TZero Tryz.prog 5 [.int .u8 0] := ⟨by kernel_rfl⟩
instance : TInt Tryz.prog 5 .u8 := ⟨by kernel_rfl⟩
instance : TSize Tryz.prog 9 1 := ⟨by kernel_rfl⟩
instance : TCell Tryz.prog 9 := ⟨by kernel_rfl⟩
instance : TStr Tryz.prog 9 := ⟨by kernel_rfl⟩
instance : TSize Tryz.prog 22 1 := ⟨by kernel_rfl⟩
instance : TCell Tryz.prog 22 := ⟨by kernel_rfl⟩
instance : TSl Tryz.prog 22 45 := ⟨by kernel_rfl⟩
instance : TPtr Tryz.prog 26 86 := ⟨by kernel_rfl⟩
instance : TSize Tryz.prog 33 2 := ⟨by kernel_rfl⟩
instance : TAgg Tryz.prog 33 := ⟨by kernel_rfl⟩
instance : TZero Tryz.prog 33 [.int .i64 0, .int .i64 0] := ⟨by kernel_rfl⟩
instance : FieldOff Tryz.prog 33 0 0 3 1 := ⟨by kernel_rfl⟩
instance : FieldOff Tryz.prog 33 1 1 3 1 := ⟨by kernel_rfl⟩
instance : TStructOk Tryz.prog 33 := ⟨by kernel_rfl⟩
instance : TStruct Tryz.prog 33 [(0, 1), (1, 1)] := ⟨by kernel_rfl⟩
instance : TEq Tryz.prog 33 [.i .i64, .i .i64] := ⟨by kernel_rfl, by kernel_rfl⟩
instance : TSize Tryz.prog 34 1 := ⟨by kernel_rfl⟩
instance : TCell Tryz.prog 34 := ⟨by kernel_rfl⟩
instance : TSl Tryz.prog 34 57 := ⟨by kernel_rfl⟩
instance : TSize Tryz.prog 35 1 := ⟨by kernel_rfl⟩
instance : TCell Tryz.prog 35 := ⟨by kernel_rfl⟩
instance : TSl Tryz.prog 35 111 := ⟨by kernel_rfl⟩
instance : TSize Tryz.prog 37 4 := ⟨by kernel_rfl⟩
instance : TAgg Tryz.prog 37 := ⟨by kernel_rfl⟩
instance : TZero Tryz.prog 37 [.int .i64 0, .int .i64 0, .slice none 0 0, .slice none 0 0] := ⟨by kernel_rfl⟩
instance : FieldOff Tryz.prog 37 0 0 33 2 := ⟨by kernel_rfl⟩
instance : FieldOff Tryz.prog 37 1 2 34 1 := ⟨by kernel_rfl⟩
instance : FieldOff Tryz.prog 37 2 3 35 1 := ⟨by kernel_rfl⟩
instance : TStructOk Tryz.prog 37 := ⟨by kernel_rfl⟩
instance : TStruct Tryz.prog 37 [(0, 2), (2, 1), (3, 1)] := ⟨by kernel_rfl⟩
instance : TSize Tryz.prog 38 1 := ⟨by kernel_rfl⟩
instance : TCell Tryz.prog 38 := ⟨by kernel_rfl⟩
instance : TSl Tryz.prog 38 43 := ⟨by kernel_rfl⟩
instance : TSize Tryz.prog 43 7 := ⟨by kernel_rfl⟩
instance : TBytes Tryz.prog 43 72 := ⟨by kernel_rfl⟩
instance : TAgg Tryz.prog 43 := ⟨by kernel_rfl⟩
instance : TZero Tryz.prog 43 [.int .i64 0, .int .i64 0, .int .i64 0, .int .i64 0, .string ByteArray.empty, .bool false, .string ByteArray.empty] := ⟨by kernel_rfl⟩
instance : FieldOff Tryz.prog 43 0 0 33 2 := ⟨by kernel_rfl⟩
instance : FieldOff Tryz.prog 43 1 2 3 1 := ⟨by kernel_rfl⟩
instance : FieldOff Tryz.prog 43 2 3 3 1 := ⟨by kernel_rfl⟩
instance : FieldOff Tryz.prog 43 3 4 9 1 := ⟨by kernel_rfl⟩
instance : FieldOff Tryz.prog 43 4 5 4 1 := ⟨by kernel_rfl⟩
instance : FieldOff Tryz.prog 43 5 6 9 1 := ⟨by kernel_rfl⟩
instance : TStructOk Tryz.prog 43 := ⟨by kernel_rfl⟩
instance : TStruct Tryz.prog 43 [(0, 2), (2, 1), (3, 1), (4, 1), (5, 1), (6, 1)] := ⟨by kernel_rfl⟩
instance : TEq Tryz.prog 43 [.i .i64, .i .i64, .i .i64, .i .i64, .s, .b, .s] := ⟨by kernel_rfl, by kernel_rfl⟩
instance : TSize Tryz.prog 45 3 := ⟨by kernel_rfl⟩
instance : TBytes Tryz.prog 45 24 := ⟨by kernel_rfl⟩
instance : TAgg Tryz.prog 45 := ⟨by kernel_rfl⟩
instance : TZero Tryz.prog 45 [.int .i64 0, .int .i64 0, .bool false] := ⟨by kernel_rfl⟩
instance : FieldOff Tryz.prog 45 0 0 3 1 := ⟨by kernel_rfl⟩
instance : FieldOff Tryz.prog 45 1 1 3 1 := ⟨by kernel_rfl⟩
instance : FieldOff Tryz.prog 45 2 2 4 1 := ⟨by kernel_rfl⟩
instance : TStructOk Tryz.prog 45 := ⟨by kernel_rfl⟩
instance : TStruct Tryz.prog 45 [(0, 1), (1, 1), (2, 1)] := ⟨by kernel_rfl⟩
instance : TEq Tryz.prog 45 [.i .i64, .i .i64, .b] := ⟨by kernel_rfl, by kernel_rfl⟩
instance : TSize Tryz.prog 47 16 := ⟨by kernel_rfl⟩
instance : TAgg Tryz.prog 47 := ⟨by kernel_rfl⟩
instance : FieldOff Tryz.prog 47 0 0 3 1 := ⟨by kernel_rfl⟩
instance : FieldOff Tryz.prog 47 1 1 43 7 := ⟨by kernel_rfl⟩
instance : FieldOff Tryz.prog 47 2 8 45 3 := ⟨by kernel_rfl⟩
instance : FieldOff Tryz.prog 47 3 11 3 1 := ⟨by kernel_rfl⟩
instance : FieldOff Tryz.prog 47 4 12 37 4 := ⟨by kernel_rfl⟩
instance : TSize Tryz.prog 48 16 := ⟨by kernel_rfl⟩
instance : TAgg Tryz.prog 48 := ⟨by kernel_rfl⟩
instance : TZero Tryz.prog 48 [.int .i64 0, .int .i64 0, .int .i64 0, .int .i64 0, .int .i64 0, .string ByteArray.empty, .bool false, .string ByteArray.empty, .int .i64 0, .int .i64 0, .bool false, .int .i64 0, .int .i64 0, .int .i64 0, .slice none 0 0, .slice none 0 0] := ⟨by kernel_rfl⟩
instance : FieldOff Tryz.prog 48 0 0 3 1 := ⟨by kernel_rfl⟩
instance : FieldOff Tryz.prog 48 1 1 43 7 := ⟨by kernel_rfl⟩
instance : FieldOff Tryz.prog 48 2 8 45 3 := ⟨by kernel_rfl⟩
instance : FieldOff Tryz.prog 48 3 11 3 1 := ⟨by kernel_rfl⟩
instance : FieldOff Tryz.prog 48 4 12 37 4 := ⟨by kernel_rfl⟩
instance : TStructOk Tryz.prog 48 := ⟨by kernel_rfl⟩
instance : TStruct Tryz.prog 48 [(0, 1), (1, 7), (8, 3), (11, 1), (12, 4)] := ⟨by kernel_rfl⟩
instance : TSize Tryz.prog 55 4 := ⟨by kernel_rfl⟩
instance : TAgg Tryz.prog 55 := ⟨by kernel_rfl⟩
instance : TZero Tryz.prog 55 [.int .i64 0, .int .i64 0, .bool false, .string ByteArray.empty] := ⟨by kernel_rfl⟩
instance : FieldOff Tryz.prog 55 0 0 33 2 := ⟨by kernel_rfl⟩
instance : FieldOff Tryz.prog 55 1 2 4 1 := ⟨by kernel_rfl⟩
instance : FieldOff Tryz.prog 55 2 3 9 1 := ⟨by kernel_rfl⟩
instance : TStructOk Tryz.prog 55 := ⟨by kernel_rfl⟩
instance : TStruct Tryz.prog 55 [(0, 2), (2, 1), (3, 1)] := ⟨by kernel_rfl⟩
instance : TSize Tryz.prog 57 5 := ⟨by kernel_rfl⟩
instance : TBytes Tryz.prog 57 56 := ⟨by kernel_rfl⟩
instance : TAgg Tryz.prog 57 := ⟨by kernel_rfl⟩
instance : TZero Tryz.prog 57 [.string ByteArray.empty, .int .i64 0, .int .i64 0, .bool false, .string ByteArray.empty] := ⟨by kernel_rfl⟩
instance : FieldOff Tryz.prog 57 0 0 9 1 := ⟨by kernel_rfl⟩
instance : FieldOff Tryz.prog 57 1 1 55 4 := ⟨by kernel_rfl⟩
instance : TStructOk Tryz.prog 57 := ⟨by kernel_rfl⟩
instance : TStruct Tryz.prog 57 [(0, 1), (1, 4)] := ⟨by kernel_rfl⟩
instance : TEq Tryz.prog 57 [.s, .i .i64, .i .i64, .b, .s] := ⟨by kernel_rfl, by kernel_rfl⟩
instance : TSize Tryz.prog 62 1 := ⟨by kernel_rfl⟩
instance : TCell Tryz.prog 62 := ⟨by kernel_rfl⟩
instance : TSl Tryz.prog 62 5 := ⟨by kernel_rfl⟩
instance : TCell Tryz.prog 80 := ⟨by kernel_rfl⟩
instance : TPtr Tryz.prog 80 154 := ⟨by kernel_rfl⟩
instance : TCell Tryz.prog 81 := ⟨by kernel_rfl⟩
instance : TPtr Tryz.prog 81 157 := ⟨by kernel_rfl⟩
instance : TSize Tryz.prog 83 4 := ⟨by kernel_rfl⟩
instance : TAgg Tryz.prog 83 := ⟨by kernel_rfl⟩
instance : TZero Tryz.prog 83 [.int .i64 0, .int .i64 0, .pointer none, .pointer none] := ⟨by kernel_rfl⟩
instance : FieldOff Tryz.prog 83 0 0 33 2 := ⟨by kernel_rfl⟩
instance : FieldOff Tryz.prog 83 1 2 80 1 := ⟨by kernel_rfl⟩
instance : FieldOff Tryz.prog 83 2 3 81 1 := ⟨by kernel_rfl⟩
instance : TStructOk Tryz.prog 83 := ⟨by kernel_rfl⟩
instance : TStruct Tryz.prog 83 [(0, 2), (2, 1), (3, 1)] := ⟨by kernel_rfl⟩
instance : TZero Tryz.prog 86 [.int .i64 0, .int .i64 0, .pointer none, .pointer none, .slice none 0 0, .int .i64 0, .int .i64 0, .slice none 0 0, .slice none 0 0, .slice none 0 0, .bool false] := ⟨by kernel_rfl⟩
instance : FieldOff Tryz.prog 86 0 0 83 4 := ⟨by kernel_rfl⟩
instance : FieldOff Tryz.prog 86 1 4 22 1 := ⟨by kernel_rfl⟩
instance : FieldOff Tryz.prog 86 2 5 37 4 := ⟨by kernel_rfl⟩
instance : FieldOff Tryz.prog 86 3 9 38 1 := ⟨by kernel_rfl⟩
instance : FieldOff Tryz.prog 86 4 10 4 1 := ⟨by kernel_rfl⟩
instance : TStructOk Tryz.prog 86 := ⟨by kernel_rfl⟩
instance : TStruct Tryz.prog 86 [(0, 4), (4, 1), (5, 4), (9, 1), (10, 1)] := ⟨by kernel_rfl⟩
instance : TPtr Tryz.prog 99 103 := ⟨by kernel_rfl⟩
instance : TZero Tryz.prog 101 [.slice none 0 0, .bool false] := ⟨by kernel_rfl⟩
instance : FieldOff Tryz.prog 101 0 0 62 1 := ⟨by kernel_rfl⟩
instance : FieldOff Tryz.prog 101 1 1 4 1 := ⟨by kernel_rfl⟩
instance : TStructOk Tryz.prog 101 := ⟨by kernel_rfl⟩
instance : TStruct Tryz.prog 101 [(0, 1), (1, 1)] := ⟨by kernel_rfl⟩
instance : TZero Tryz.prog 103 [.slice none 0 0, .bool false] := ⟨by kernel_rfl⟩
instance : FieldOff Tryz.prog 103 0 0 101 2 := ⟨by kernel_rfl⟩
instance : TStructOk Tryz.prog 103 := ⟨by kernel_rfl⟩
instance : TStruct Tryz.prog 103 [(0, 2)] := ⟨by kernel_rfl⟩
instance : TSize Tryz.prog 111 4 := ⟨by kernel_rfl⟩
instance : TBytes Tryz.prog 111 32 := ⟨by kernel_rfl⟩
instance : TAgg Tryz.prog 111 := ⟨by kernel_rfl⟩
instance : TZero Tryz.prog 111 [.int .i64 0, .int .i64 0, .int .i64 0, .int .i64 0] := ⟨by kernel_rfl⟩
instance : FieldOff Tryz.prog 111 0 0 3 1 := ⟨by kernel_rfl⟩
instance : FieldOff Tryz.prog 111 1 1 3 1 := ⟨by kernel_rfl⟩
instance : FieldOff Tryz.prog 111 2 2 33 2 := ⟨by kernel_rfl⟩
instance : TStructOk Tryz.prog 111 := ⟨by kernel_rfl⟩
instance : TStruct Tryz.prog 111 [(0, 1), (1, 1), (2, 2)] := ⟨by kernel_rfl⟩
instance : TEq Tryz.prog 111 [.i .i64, .i .i64, .i .i64, .i .i64] := ⟨by kernel_rfl, by kernel_rfl⟩
instance : TPtr Tryz.prog 112 145 := ⟨by kernel_rfl⟩
instance : TSl Tryz.prog 128 3 := ⟨by kernel_rfl⟩
instance : TZero Tryz.prog 145 [.slice none 0 0, .bool false] := ⟨by kernel_rfl⟩
instance : FieldOff Tryz.prog 145 0 0 101 2 := ⟨by kernel_rfl⟩
instance : TStructOk Tryz.prog 145 := ⟨by kernel_rfl⟩
instance : TStruct Tryz.prog 145 [(0, 2)] := ⟨by kernel_rfl⟩
instance : TSize Tryz.prog 152 1 := ⟨by kernel_rfl⟩
instance : TCell Tryz.prog 152 := ⟨by kernel_rfl⟩
instance : TPtr Tryz.prog 152 173 := ⟨by kernel_rfl⟩
instance : TZero Tryz.prog 154 [.pointer none, .int .i64 0] := ⟨by kernel_rfl⟩
instance : FieldOff Tryz.prog 154 0 0 152 1 := ⟨by kernel_rfl⟩
instance : FieldOff Tryz.prog 154 1 1 3 1 := ⟨by kernel_rfl⟩
instance : TStructOk Tryz.prog 154 := ⟨by kernel_rfl⟩
instance : TStruct Tryz.prog 154 [(0, 1), (1, 1)] := ⟨by kernel_rfl⟩
instance : TCell Tryz.prog 155 := ⟨by kernel_rfl⟩
instance : TMap Tryz.prog 155 3 159 := ⟨by kernel_rfl⟩
instance : TZero Tryz.prog 157 [.int .i64 0, .map none] := ⟨by kernel_rfl⟩
instance : FieldOff Tryz.prog 157 0 0 3 1 := ⟨by kernel_rfl⟩
instance : FieldOff Tryz.prog 157 1 1 155 1 := ⟨by kernel_rfl⟩
instance : TStructOk Tryz.prog 157 := ⟨by kernel_rfl⟩
instance : TStruct Tryz.prog 157 [(0, 1), (1, 1)] := ⟨by kernel_rfl⟩
instance : TSize Tryz.prog 159 3 := ⟨by kernel_rfl⟩
instance : TZero Tryz.prog 159 [.int .i64 0, .int .i64 0, .int .i64 0] := ⟨by kernel_rfl⟩
instance : FieldOff Tryz.prog 159 0 0 3 1 := ⟨by kernel_rfl⟩
instance : FieldOff Tryz.prog 159 1 1 33 2 := ⟨by kernel_rfl⟩
instance : TStructOk Tryz.prog 159 := ⟨by kernel_rfl⟩
instance : TStruct Tryz.prog 159 [(0, 1), (1, 2)] := ⟨by kernel_rfl⟩
instance : TSize Tryz.prog 173 8 := ⟨by kernel_rfl⟩
instance : TAgg Tryz.prog 173 := ⟨by kernel_rfl⟩
instance : TZero Tryz.prog 173 [.string ByteArray.empty, .int .i64 0, .int .i64 0, .bool false, .string ByteArray.empty, .int .i64 0, .pointer none, .pointer none] := ⟨by kernel_rfl⟩
instance : FieldOff Tryz.prog 173 0 0 9 1 := ⟨by kernel_rfl⟩
instance : FieldOff Tryz.prog 173 1 1 55 4 := ⟨by kernel_rfl⟩
instance : FieldOff Tryz.prog 173 2 5 3 1 := ⟨by kernel_rfl⟩
instance : FieldOff Tryz.prog 173 3 6 152 1 := ⟨by kernel_rfl⟩
instance : FieldOff Tryz.prog 173 4 7 152 1 := ⟨by kernel_rfl⟩
instance : TStructOk Tryz.prog 173 := ⟨by kernel_rfl⟩
instance : TStruct Tryz.prog 173 [(0, 1), (1, 4), (5, 1), (6, 1), (7, 1)] := ⟨by kernel_rfl⟩
instance : HasBody Tryz.prog 6 := ⟨by kernel_rfl⟩
instance : HasBody Tryz.prog 7 := ⟨by kernel_rfl⟩
instance : HasBody Tryz.prog 10 := ⟨by kernel_rfl⟩
instance : HasBody Tryz.prog 11 := ⟨by kernel_rfl⟩
instance : HasBody Tryz.prog 12 := ⟨by kernel_rfl⟩
instance : HasBody Tryz.prog 15 := ⟨by kernel_rfl⟩
instance : HasBody Tryz.prog 18 := ⟨by kernel_rfl⟩
instance : HasBody Tryz.prog 19 := ⟨by kernel_rfl⟩
instance : HasBody Tryz.prog 20 := ⟨by kernel_rfl⟩
instance : HasBody Tryz.prog 21 := ⟨by kernel_rfl⟩
instance : HasBody Tryz.prog 22 := ⟨by kernel_rfl⟩
instance : HasBody Tryz.prog 28 := ⟨by kernel_rfl⟩
instance : HasBody Tryz.prog 30 := ⟨by kernel_rfl⟩
instance : HasBody Tryz.prog 31 := ⟨by kernel_rfl⟩
instance : HasBody Tryz.prog 32 := ⟨by kernel_rfl⟩
instance : HasBody Tryz.prog 33 := ⟨by kernel_rfl⟩
instance : HasBody Tryz.prog 34 := ⟨by kernel_rfl⟩
instance : HasBody Tryz.prog 35 := ⟨by kernel_rfl⟩
instance : HasBody Tryz.prog 36 := ⟨by kernel_rfl⟩
instance : HasBody Tryz.prog 37 := ⟨by kernel_rfl⟩
instance : HasBody Tryz.prog 38 := ⟨by kernel_rfl⟩
instance : HasBody Tryz.prog 50 := ⟨by kernel_rfl⟩
instance : HasBody Tryz.prog 51 := ⟨by kernel_rfl⟩
instance : HasBody Tryz.prog 52 := ⟨by kernel_rfl⟩
instance : HasBody Tryz.prog 53 := ⟨by kernel_rfl⟩
instance : HasBody Tryz.prog 54 := ⟨by kernel_rfl⟩
instance : HasBody Tryz.prog 58 := ⟨by kernel_rfl⟩
instance : HasBody Tryz.prog 59 := ⟨by kernel_rfl⟩
instance : HasBody Tryz.prog 60 := ⟨by kernel_rfl⟩
instance : HasBody Tryz.prog 61 := ⟨by kernel_rfl⟩
instance : HasBody Tryz.prog 62 := ⟨by kernel_rfl⟩
instance : HasBody Tryz.prog 63 := ⟨by kernel_rfl⟩
instance : HasBody Tryz.prog 64 := ⟨by kernel_rfl⟩
instance : HasBody Tryz.prog 65 := ⟨by kernel_rfl⟩
instance : HasBody Tryz.prog 66 := ⟨by kernel_rfl⟩
instance : HasBody Tryz.prog 67 := ⟨by kernel_rfl⟩
instance : HasBody Tryz.prog 68 := ⟨by kernel_rfl⟩
instance : HasBody Tryz.prog 69 := ⟨by kernel_rfl⟩
instance : HasBody Tryz.prog 70 := ⟨by kernel_rfl⟩
instance : HasBody Tryz.prog 71 := ⟨by kernel_rfl⟩
instance : HasBody Tryz.prog 72 := ⟨by kernel_rfl⟩
instance : HasBody Tryz.prog 73 := ⟨by kernel_rfl⟩
instance : HasBody Tryz.prog 74 := ⟨by kernel_rfl⟩
instance : HasBody Tryz.prog 75 := ⟨by kernel_rfl⟩
instance : HasBody Tryz.prog 76 := ⟨by kernel_rfl⟩
instance : HasBody Tryz.prog 77 := ⟨by kernel_rfl⟩
instance : HasBody Tryz.prog 78 := ⟨by kernel_rfl⟩
instance : HasBody Tryz.prog 79 := ⟨by kernel_rfl⟩
instance : HasBody Tryz.prog 80 := ⟨by kernel_rfl⟩
instance : HasBody Tryz.prog 81 := ⟨by kernel_rfl⟩
instance : HasBody Tryz.prog 82 := ⟨by kernel_rfl⟩
instance : HasBody Tryz.prog 89 := ⟨by kernel_rfl⟩
instance : HasBody Tryz.prog 90 := ⟨by kernel_rfl⟩
instance : HasBody Tryz.prog 91 := ⟨by kernel_rfl⟩
instance : HasBody Tryz.prog 92 := ⟨by kernel_rfl⟩
instance : HasBody Tryz.prog 93 := ⟨by kernel_rfl⟩
instance : HasBody Tryz.prog 94 := ⟨by kernel_rfl⟩
instance : HasBody Tryz.prog 95 := ⟨by kernel_rfl⟩
instance : HasBody Tryz.prog 96 := ⟨by kernel_rfl⟩
instance : HasBody Tryz.prog 97 := ⟨by kernel_rfl⟩
instance : HasBody Tryz.prog 98 := ⟨by kernel_rfl⟩
instance : HasBody Tryz.prog 99 := ⟨by kernel_rfl⟩
instance : HasBody Tryz.prog 100 := ⟨by kernel_rfl⟩
instance : HasBody Tryz.prog 101 := ⟨by kernel_rfl⟩
instance : HasBody Tryz.prog 102 := ⟨by kernel_rfl⟩
instance : HasBody Tryz.prog 103 := ⟨by kernel_rfl⟩
instance : HasBody Tryz.prog 104 := ⟨by kernel_rfl⟩
instance : HasBody Tryz.prog 107 := ⟨by kernel_rfl⟩
instance : HasBody Tryz.prog 108 := ⟨by kernel_rfl⟩
instance : HasBody Tryz.prog 111 := ⟨by kernel_rfl⟩
instance : HasBody Tryz.prog 112 := ⟨by kernel_rfl⟩
instance : HasBody Tryz.prog 113 := ⟨by kernel_rfl⟩
instance : HasBody Tryz.prog 114 := ⟨by kernel_rfl⟩
instance : HasBody Tryz.prog 115 := ⟨by kernel_rfl⟩
instance : HasBody Tryz.prog 116 := ⟨by kernel_rfl⟩
instance : HasBody Tryz.prog 120 := ⟨by kernel_rfl⟩
end Go.Proofs.YtnoggejkkjngjaaGreat
/- A region that draws its order, walked in the few orders that make a difference. No condition. -/
set_option linter.unusedVariables false
namespace Go.Sl
open Go
/-- Orders: one operation behind the other, or either of two ways. -/
inductive Tr where
  | done
  | step (i : Nat) (t : Tr)
  | alt (t u : Tr)
namespace Tr
def els : Tr → List Nat
  | done => []
  | step i t => i :: els t
  | alt t u => els t ++ els u
def has (k : Nat) : Tr → Bool
  | done => false
  | step i t => i == k || has k t
  | alt t u => has k t && has k u
def front (bad : List Nat) (j : Nat) : Tr → Option Tr
  | done => none
  | step x t => if x = j then some t else if bad.contains x then none else (front bad j t).map (step x)
  | alt t u => match front bad j t with
    | some t' => some t'
    | none => front bad j u
def strip (p : Nat → Bool) : Tr → Tr
  | done => done
  | step i t => if p i then strip p t else step i (strip p t)
  | alt t u => alt (strip p t) (strip p u)
def noAlt : Tr → Bool
  | done => true
  | step _ t => noAlt t
  | alt _ _ => false
def pairs (R : Nat → Nat → Bool) : Tr → Bool
  | done => true
  | step x t => (els t).all (R x) && pairs R t
  | alt t u => pairs R t && pairs R u
end Tr
section draw
variable {P : Program} {ops : Array Oper} {Inv : World → Prop} {fm : Fm}
def Xt (P : Program) (ops : Array Oper) (Inv : World → Prop) (fm : Fm) (K : Act → World → Prop) : Tr → Act → World → Prop
  | .done => K
  | .step i t => match ops[i]? with
    | some o => stepX P ops Inv fm o (Xt P ops Inv fm K t)
    | none => Xt P ops Inv fm K t
  | .alt t u => fun a w => Xt P ops Inv fm K t a w ∧ Xt P ops Inv fm K u a w
def commB (fm : Fm) (ops : Array Oper) (x j : Nat) : Bool := match ops[x]?, ops[j]? with
  | some ox, some oj => ox.apart ops oj && stepableB fm ox oj
  | _, _ => true
def relB (fm : Fm) (ops : Array Oper) (bad : List Nat) (x j : Nat) : Bool := !(x == j) && (anc ops ops.size x j || (bad.contains x && bad.contains j) || commB fm ops x j)
def cov (ops : Array Oper) (bad : List Nat) : Nat → List Nat → Tr → Bool
  | 0, S, t => bad.all (fun b => S.contains b) && t.noAlt
  | f + 1, S, t => if bad.all (fun b => S.contains b) then t.noAlt else
    bad.all fun j => S.contains j || !(bad.all fun b => S.contains b || !anc ops ops.size b j) || (match Tr.front bad j t with | some u => cov ops bad f (j :: S) u | none => false)
def lightB (fm : Fm) (ops : Array Oper) (j : Nat) : Bool := match ops[j]? with
  | some o => kindB fm o.dst o.op == 0 || kindB fm o.dst o.op == 1
  | none => true
def treeOk (fm : Fm) (ops : Array Oper) (bad : List Nat) (t : Tr) : Bool :=
  (ops.toList.all fun o => !isSelect o.op) &&
  ((List.range ops.size).all fun i => match ops[i]? with | some o => o.after.toList.all fun e => !Region.binds .any e || decide (e.on < i) | none => true) &&
  t.pairs (relB fm ops bad) && (t.els.all fun x => decide (x < ops.size)) && (bad.all fun x => decide (x < ops.size)) && ((List.range ops.size).all fun j => t.has j) &&
  ((List.range ops.size).all fun j => bad.contains j || lightB fm ops j || bad.all fun b => anc ops ops.size b j) && cov ops bad bad.length [] t

theorem front_els {bad : List Nat} {j : Nat} : ∀ {t u : Tr}, Tr.front bad j t = some u → j ∈ t.els ∧ ∀ x ∈ u.els, x ∈ t.els
  | .done, u, h => by simp [Tr.front] at h
  | .step x t, u, h => by
    simp only [Tr.front] at h
    split at h
    · rename_i e; cases h; exact ⟨by simp [Tr.els, e], fun y hy => List.mem_cons_of_mem _ hy⟩
    · split at h
      · cases h
      · obtain ⟨v, hv, rfl⟩ := Option.map_eq_some_iff.1 h
        obtain ⟨h1, h2⟩ := front_els hv
        refine ⟨List.mem_cons_of_mem _ h1, fun y hy => ?_⟩
        rcases List.mem_cons.1 hy with rfl | hy
        · exact List.mem_cons_self ..
        · exact List.mem_cons_of_mem _ (h2 y hy)
  | .alt t v, u, h => by
    simp only [Tr.front] at h
    split at h
    · rename_i t' e
      cases h
      obtain ⟨h1, h2⟩ := front_els e
      exact ⟨List.mem_append_left _ h1, fun y hy => List.mem_append_left _ (h2 y hy)⟩
    · obtain ⟨h1, h2⟩ := front_els h
      exact ⟨List.mem_append_right _ h1, fun y hy => List.mem_append_right _ (h2 y hy)⟩
theorem front_pairs {R : Nat → Nat → Bool} {bad : List Nat} {j : Nat} : ∀ {t u : Tr}, Tr.front bad j t = some u → t.pairs R = true → u.pairs R = true
  | .done, u, h, _ => by simp [Tr.front] at h
  | .step x t, u, h, hp => by
    simp only [Tr.pairs, Bool.and_eq_true] at hp
    simp only [Tr.front] at h
    split at h
    · cases h; exact hp.2
    · split at h
      · cases h
      · obtain ⟨v, hv, rfl⟩ := Option.map_eq_some_iff.1 h
        simp only [Tr.pairs, Bool.and_eq_true]
        exact ⟨List.all_eq_true.2 fun y hy => List.all_eq_true.1 hp.1 y ((front_els hv).2 y hy), front_pairs hv hp.2⟩
  | .alt t v, u, h, hp => by
    simp only [Tr.pairs, Bool.and_eq_true] at hp
    simp only [Tr.front] at h
    split at h
    · rename_i t' e; cases h; exact front_pairs e hp.1
    · exact front_pairs h hp.2
theorem front_has {bad : List Nat} {j k : Nat} (hk : k ≠ j) : ∀ {t u : Tr}, Tr.front bad j t = some u → t.has k = true → u.has k = true
  | .done, u, h, _ => by simp [Tr.front] at h
  | .step x t, u, h, hp => by
    simp only [Tr.has, Bool.or_eq_true, beq_iff_eq] at hp
    simp only [Tr.front] at h
    split at h
    · rename_i e
      cases h
      rcases hp with hp | hp
      · omega
      · exact hp
    · split at h
      · cases h
      · obtain ⟨v, hv, rfl⟩ := Option.map_eq_some_iff.1 h
        simp only [Tr.has, Bool.or_eq_true, beq_iff_eq]
        rcases hp with hp | hp
        · exact .inl hp
        · exact .inr (front_has hk hv hp)
  | .alt t v, u, h, hp => by
    simp only [Tr.has, Bool.and_eq_true] at hp
    simp only [Tr.front] at h
    split at h
    · rename_i t' e; cases h; exact front_has hk e hp.1
    · exact front_has hk h hp.2
theorem strip_congr {p q : Nat → Bool} : ∀ {t : Tr}, (∀ x ∈ t.els, p x = q x) → t.strip p = t.strip q
  | .done, _ => rfl
  | .step x t, h => by
    simp only [Tr.strip, h x (List.mem_cons_self ..), strip_congr (t := t) fun y hy => h y (List.mem_cons_of_mem _ hy)]
  | .alt t u, h => by
    simp only [Tr.strip, strip_congr (t := t) fun y hy => h y (List.mem_append_left _ hy), strip_congr (t := u) fun y hy => h y (List.mem_append_right _ hy)]
theorem strip_all {p : Nat → Bool} : ∀ {t : Tr}, t.noAlt = true → (∀ x ∈ t.els, p x = true) → t.strip p = .done
  | .done, _, _ => rfl
  | .step x t, h, hp => by
    simp only [Tr.strip, hp x (List.mem_cons_self ..), if_true]
    exact strip_all (t := t) h fun y hy => hp y (List.mem_cons_of_mem _ hy)
theorem stepX_both {o : Oper} {K1 K2 : Act → World → Prop} {a : Act} {w : World} (hI : Inv w) (hk : kindB fm o.dst o.op = 0 ∨ kindB fm o.dst o.op = 1) (h1 : stepX P ops Inv fm o K1 a w) (h2 : stepX P ops Inv fm o K2 a w) :
    stepX P ops Inv fm o (fun a w => K1 a w ∧ K2 a w) a w := by
  unfold stepX at *
  split
  · rename_i hw
    rw [if_pos hw] at h1 h2
    rcases hk with hk | hk
    · rw [hk] at h1 h2 ⊢
      obtain ⟨v, e1, k1⟩ := h1
      obtain ⟨u, e2, k2⟩ := h2
      have := (e1 w hI).symm.trans (e2 w hI)
      cases this
      exact ⟨v, e1, k1, k2⟩
    · rw [hk] at h1 h2 ⊢
      obtain ⟨v, e1, k1⟩ := h1
      obtain ⟨u, e2, k2⟩ := h2
      have := (e1 w (Ext.refl w)).symm.trans (e2 w (Ext.refl w))
      cases this
      exact ⟨v, e1, k1, k2⟩
  · rename_i hw
    rw [if_neg hw] at h1 h2
    exact ⟨h1, h2⟩

section tree
variable {bad : List Nat} {K : Act → World → Prop}
def Comm (fm : Fm) (ops : Array Oper) (x j : Nat) : Prop := ∀ ox oj, ops[x]? = some ox → ops[j]? = some oj → ox.apart ops oj = true ∧ Stepable fm ox oj
theorem commB_out {x j : Nat} (h : commB fm ops x j = true) : Comm fm ops x j := fun ox oj hx hj => by
  unfold commB at h
  rw [hx, hj] at h
  simp only [Bool.and_eq_true, stepableB, Bool.or_eq_true, beq_iff_eq] at h
  refine ⟨h.1, ?_⟩
  rcases h.2 with (h | h) | h
  · exact .inl h
  · exact .inr (.inl h)
  · exact .inr (.inr h)
theorem Xt_step_swap (hsel : ∀ (j : Nat) (o : Oper), ops[j]? = some o → ∀ cs b, o.op ≠ .select cs b) {x j : Nat} {oj : Oper} (hj : ops[j]? = some oj) (hc : Comm fm ops x j) {t u : Tr} {a : Act} {w : World} (hI : Inv w)
    (ih : ∀ a w, Inv w → Xt P ops Inv fm K t a w → stepX P ops Inv fm oj (Xt P ops Inv fm K u) a w) (h : Xt P ops Inv fm K (.step x t) a w) : stepX P ops Inv fm oj (Xt P ops Inv fm K (.step x u)) a w := by
  simp only [Xt] at h ⊢
  cases hx : ops[x]? with
  | none => rw [hx] at h; simpa using ih a w hI h
  | some ox =>
    rw [hx] at h
    have h2 := stepX_mono hI ih h
    obtain ⟨q1, q2⟩ := hc ox oj hx hj
    exact swap hI (hsel x ox hx) (hsel j oj hj) q1 q2 h2
theorem bad_front (hsel : ∀ (j : Nat) (o : Oper), ops[j]? = some o → ∀ cs b, o.op ≠ .select cs b) {p q : Nat → Bool} {j : Nat} {oj : Oper} (hj : ops[j]? = some oj) (hpj : p j = false) (hq : ∀ x, x ≠ j → q x = p x) (hb : bad.contains j = true)
    (hanc : ∀ x, anc ops ops.size x j = true → p x = true) : ∀ {t u : Tr}, Tr.front bad j t = some u → t.pairs (relB fm ops bad) = true → ∀ a w, Inv w → Xt P ops Inv fm K (t.strip p) a w → stepX P ops Inv fm oj (Xt P ops Inv fm K (u.strip q)) a w
  | .done, u, h, _, _, _, _, _ => by simp [Tr.front] at h
  | .step x t, u, h, hp, a, w, hI, hX => by
    simp only [Tr.pairs, Bool.and_eq_true] at hp
    simp only [Tr.front] at h
    split at h
    · rename_i e
      cases h
      subst e
      have e2 : t.strip q = t.strip p := strip_congr fun y hy => hq y (by
        have := List.all_eq_true.1 hp.1 y hy
        simp only [relB, Bool.and_eq_true, Bool.not_eq_true', beq_eq_false_iff_ne] at this
        exact fun e => this.1 e.symm)
      rw [e2]
      simp only [Tr.strip, hpj] at hX
      simpa [Xt, hj] using hX
    · rename_i hne
      split at h
      · cases h
      · rename_i hnb
        obtain ⟨v, hv, rfl⟩ := Option.map_eq_some_iff.1 h
        have hr := List.all_eq_true.1 hp.1 j (front_els hv).1
        cases hpx : p x with
        | true =>
          simp only [Tr.strip, hpx, hq x hne, if_true] at hX ⊢
          exact bad_front hsel hj hpj hq hb hanc hv hp.2 a w hI hX
        | false =>
          have hc : commB fm ops x j = true := by
            simp only [relB, Bool.and_eq_true, Bool.or_eq_true] at hr
            rcases hr.2 with (h1 | h1) | h1
            · rw [hanc x h1] at hpx; cases hpx
            · exact absurd h1.1 hnb
            · exact h1
          simp only [Tr.strip, hpx, hq x hne] at hX ⊢
          exact Xt_step_swap hsel hj (commB_out hc) hI (bad_front hsel hj hpj hq hb hanc hv hp.2) hX
  | .alt t v, u, h, hp, a, w, hI, hX => by
    simp only [Tr.pairs, Bool.and_eq_true] at hp
    simp only [Tr.front] at h
    simp only [Tr.strip, Xt] at hX
    split at h
    · rename_i t' e; cases h; exact bad_front hsel hj hpj hq hb hanc e hp.1 a w hI hX.1
    · exact bad_front hsel hj hpj hq hb hanc h hp.2 a w hI hX.2
theorem good_front (hsel : ∀ (j : Nat) (o : Oper), ops[j]? = some o → ∀ cs b, o.op ≠ .select cs b) {p q : Nat → Bool} {j : Nat} {oj : Oper} (hj : ops[j]? = some oj) (hpj : p j = false) (hqj : q j = true) (hq : ∀ x, x ≠ j → q x = p x) (hb : bad.contains j = false)
    (hanc : ∀ x, anc ops ops.size x j = true → p x = true) : ∀ {t : Tr}, (lightB fm ops j = true ∨ t.noAlt = true) → t.has j = true → t.pairs (relB fm ops bad) = true → ∀ a w, Inv w → Xt P ops Inv fm K (t.strip p) a w → stepX P ops Inv fm oj (Xt P ops Inv fm K (t.strip q)) a w
  | .done, _, h, _, _, _, _, _ => by simp [Tr.has] at h
  | .step x t, hl, h, hp, a, w, hI, hX => by
    simp only [Tr.pairs, Bool.and_eq_true] at hp
    simp only [Tr.has, Bool.or_eq_true, beq_iff_eq] at h
    have hmem : ∀ {t : Tr}, t.has j = true → t.pairs (relB fm ops bad) = true → j ∈ t.els := by
      intro t
      induction t with
      | done => intro h; simp [Tr.has] at h
      | step y t ih =>
        intro h hp
        simp only [Tr.pairs, Bool.and_eq_true] at hp
        simp only [Tr.has, Bool.or_eq_true, beq_iff_eq] at h
        rcases h with h | h
        · simp [Tr.els, h]
        · exact List.mem_cons_of_mem _ (ih h hp.2)
      | alt t u ih1 ih2 =>
        intro h hp
        simp only [Tr.pairs, Bool.and_eq_true] at hp
        simp only [Tr.has, Bool.and_eq_true] at h
        exact List.mem_append_left _ (ih1 h.1 hp.1)
    by_cases hxj : x = j
    · subst hxj
      have e2 : t.strip q = t.strip p := strip_congr fun y hy => hq y (by
        have := List.all_eq_true.1 hp.1 y hy
        simp only [relB, Bool.and_eq_true, Bool.not_eq_true', beq_eq_false_iff_ne] at this
        exact fun e => this.1 e.symm)
      simp only [Tr.strip, hpj, hqj, if_true, e2] at hX ⊢
      simpa [Xt, hj] using hX
    · have h' : t.has j = true := by rcases h with h | h; exact absurd h hxj; exact h
      have hl' : lightB fm ops j = true ∨ t.noAlt = true := hl.imp id (fun h => h)
      have hr := List.all_eq_true.1 hp.1 j (hmem h' hp.2)
      cases hpx : p x with
      | true =>
        simp only [Tr.strip, hpx, hq x hxj, if_true] at hX ⊢
        exact good_front hsel hj hpj hqj hq hb hanc hl' h' hp.2 a w hI hX
      | false =>
        have hc : commB fm ops x j = true := by
          simp only [relB, Bool.and_eq_true, Bool.or_eq_true] at hr
          rcases hr.2 with (h1 | h1) | h1
          · rw [hanc x h1] at hpx; cases hpx
          · rw [hb] at h1; cases h1.2
          · exact h1
        simp only [Tr.strip, hpx, hq x hxj] at hX ⊢
        exact Xt_step_swap hsel hj (commB_out hc) hI (good_front hsel hj hpj hqj hq hb hanc hl' h' hp.2) hX
  | .alt t u, hl, h, hp, a, w, hI, hX => by
    simp only [Tr.pairs, Bool.and_eq_true] at hp
    simp only [Tr.has, Bool.and_eq_true] at h
    have hl' : lightB fm ops j = true := by rcases hl with h | h; exact h; simp [Tr.noAlt] at h
    have hk : kindB fm oj.dst oj.op = 0 ∨ kindB fm oj.dst oj.op = 1 := by
      unfold lightB at hl'; rw [hj] at hl'; simpa using hl'
    simp only [Tr.strip, Xt] at hX ⊢
    exact stepX_both hI hk (good_front hsel hj hpj hqj hq hb hanc (.inl hl') h.1 hp.1 a w hI hX.1) (good_front hsel hj hpj hqj hq hb hanc (.inl hl') h.2 hp.2 a w hI hX.2)
theorem cov_all : ∀ {f : Nat} {S : List Nat} {t : Tr}, cov ops bad f S t = true → (∀ b ∈ bad, S.contains b = true) → t.noAlt = true
  | 0, S, t, h, _ => by simp only [cov, Bool.and_eq_true] at h; exact h.2
  | f + 1, S, t, h, hS => by
    simp only [cov] at h
    rw [if_pos (List.all_eq_true.2 hS)] at h
    exact h
theorem cov_step {j : Nat} (hj : j ∈ bad) : ∀ {f : Nat} {S : List Nat} {t : Tr}, cov ops bad f S t = true → S.contains j = false → (∀ b ∈ bad, anc ops ops.size b j = true → S.contains b = true) → ∃ u f', Tr.front bad j t = some u ∧ cov ops bad f' (j :: S) u = true
  | 0, S, t, h, hS, _ => by
    simp only [cov, Bool.and_eq_true] at h
    have := List.all_eq_true.1 h.1 j hj
    rw [hS] at this; cases this
  | f + 1, S, t, h, hS, ha => by
    simp only [cov] at h
    rw [if_neg (fun e => by have := List.all_eq_true.1 e j hj; rw [hS] at this; cases this)] at h
    have h1 := List.all_eq_true.1 h j hj
    have h2 : (bad.all fun b => S.contains b || !anc ops ops.size b j) = true := List.all_eq_true.2 fun b hb => by
      cases h3 : anc ops ops.size b j with
      | false => simp
      | true => rw [ha b hb h3]; rfl
    rw [hS, h2] at h1
    simp only [Bool.not_true, Bool.or_false, Bool.false_or] at h1
    split at h1
    · rename_i u hu; exact ⟨u, f, hu, h1⟩
    · cases h1
theorem draw_tree {ro : Option Nat} (hsel : ∀ (j : Nat) (o : Oper), ops[j]? = some o → ∀ cs b, o.op ≠ .select cs b)
    (hback : ∀ i o, ops[i]? = some o → ∀ e ∈ o.after, Region.binds .any e = true → e.on < i)
    (hkind : ∀ j, j < ops.size → bad.contains j = false → lightB fm ops j = true ∨ ∀ b ∈ bad, anc ops ops.size b j = true) (hbs : ∀ b ∈ bad, b < ops.size) :
    ∀ (fuel : Nat) (listed : Array Bool) (L : List Nat) (S : List Nat) (t : Tr) (f : Nat), listed.size = ops.size → L.Nodup → (∀ j, j ∈ L ↔ (j < ops.size ∧ listed.getD j true = false)) → L.length ≤ fuel →
    (∀ i, listed.getD i false = true → ∀ k x, anc ops k x i = true → listed.getD x false = true) →
    (∀ b ∈ bad, S.contains b = listed.getD b false) → cov ops bad f S t = true → t.pairs (relB fm ops bad) = true → (∀ x ∈ t.els, x < ops.size) → (∀ k, k < ops.size → listed.getD k true = false → t.has k = true) →
    ∀ a w, Inv w → Xt P ops Inv fm K (t.strip (fun x => listed.getD x false)) a w → wpAnyIn (fen ro) 0 P .any ops (onlyN K) fuel listed a w := by
  have gd : ∀ (l : Array Bool) (j : Nat), j < l.size → (l.getD j true = false ↔ ¬ l.getD j false = true) := fun l j hj => by
    simp [Array.getD, hj]
  have hdone : ∀ (listed : Array Bool) (S : List Nat) (t : Tr) (f : Nat), listed.size = ops.size → (∀ j, j < ops.size → listed.getD j false = true) → (∀ b ∈ bad, S.contains b = listed.getD b false) → cov ops bad f S t = true →
      (∀ x ∈ t.els, x < ops.size) → t.strip (fun x => listed.getD x false) = .done := fun listed S t f hsz hall hS hc hel =>
    strip_all (cov_all hc fun b hb => by rw [hS b hb]; exact hall b (hbs b hb)) (fun x hx => hall x (hel x hx))
  have hready : ∀ (listed : Array Bool), listed.size = ops.size → Region.ready .any ops listed = [] → ∀ j, j < ops.size → listed.getD j false = true := by
    intro listed hsz hr j
    induction j using Nat.strongRecOn with
    | _ j ih =>
      intro hj
      rcases Bool.eq_false_or_eq_true (listed.getD j false) with h1 | h1
      · exact h1
      · exfalso
        have : j ∈ Region.ready .any ops listed := mem_ready.2 ⟨(gd listed j (by omega)).2 (by simp [h1]), ops[j]'hj, by simp [hj], fun e he hb => by
          have := hback j _ (by simp [hj]) e he hb
          exact ih e.on this (by omega)⟩
        rw [hr] at this; cases this
  intro fuel
  induction fuel with
  | zero =>
    intro listed L S t f hsz hnd hL hlen hD hS hc hp hel hh a w hI h
    obtain rfl : L = [] := List.length_eq_zero_iff.1 (by omega)
    have hall : ∀ j, j < ops.size → listed.getD j false = true := fun j hj => by
      rcases Bool.eq_false_or_eq_true (listed.getD j false) with h1 | h1
      · exact h1
      · exact absurd ((hL j).2 ⟨hj, (gd listed j (by omega)).2 (by simp [h1])⟩) (by simp)
    rw [hdone listed S t f hsz hall hS hc hel] at h
    refine ⟨?_, h⟩
    cases hr : Region.ready .any ops listed with
    | nil => rfl
    | cons j js =>
      have hj : j ∈ Region.ready .any ops listed := by rw [hr]; exact List.mem_cons_self ..
      obtain ⟨h0, o, ho, _⟩ := mem_ready.1 hj
      have := (hL j).2 ⟨(Array.getElem?_eq_some_iff.1 ho).1, h0⟩
      cases this
  | succ fuel ih =>
    intro listed L S t f hsz hnd hL hlen hD hS hc hp hel hh a w hI h
    refine ⟨fun hr => ?_, fun j hj => ?_⟩
    · rw [hdone listed S t f hsz (hready listed hsz hr) hS hc hel] at h
      exact h
    · obtain ⟨h0, oj, hoj, hall⟩ := mem_ready.1 hj
      have hjlt : j < ops.size := (Array.getElem?_eq_some_iff.1 hoj).1
      have hjL : j ∈ L := (hL j).2 ⟨hjlt, h0⟩
      have hpj : listed.getD j false = false := by
        have := (gd listed j (by omega)).1 h0
        simpa using this
      have hanc : ∀ k x, anc ops k x j = true → listed.getD x false = true := by
        intro k x hx
        cases k with
        | zero => cases hx
        | succ k =>
          obtain ⟨o, e, ho, he, hb, h1⟩ := anc_inv hx
          rw [hoj] at ho; obtain rfl := Option.some.inj ho
          have hl := hall e he hb
          rcases h1 with h1 | h1
          · rw [← h1]; exact hl
          · exact hD _ hl k x h1
      have hq : ∀ x, x ≠ j → (listed.setIfInBounds j true).getD x false = listed.getD x false := fun x hx => getD_set_ne false (Ne.symm hx)
      have hqj : (listed.setIfInBounds j true).getD j false = true := by simp [Array.getD, hsz, hjlt]
      have hL' : ∀ x, x ∈ L.erase j ↔ (x < ops.size ∧ (listed.setIfInBounds j true).getD x true = false) := fun x => by
        by_cases hxj : x = j
        · subst hxj
          constructor
          · intro hx; exact absurd hx (by simpa using hnd.not_mem_erase)
          · rintro ⟨_, hx⟩; simp [Array.getD, hsz, hjlt] at hx
        · rw [getD_set_ne true (Ne.symm hxj), ← hL x, List.mem_erase_of_ne hxj]
      have hlen' : (L.erase j).length ≤ fuel := by rw [List.length_erase_of_mem hjL]; omega
      have hD' : ∀ i, (listed.setIfInBounds j true).getD i false = true → ∀ k x, anc ops k x i = true → (listed.setIfInBounds j true).getD x false = true := by
        intro i hi k x hx
        by_cases hij : i = j
        · subst hij; exact getD_set_true (hanc k x hx)
        · rw [getD_set_ne false (Ne.symm hij)] at hi
          exact getD_set_true (hD i hi k x hx)
      by_cases hb : bad.contains j = true
      · have hbm : j ∈ bad := by simpa using hb
        obtain ⟨u, f', hu, hcu⟩ := cov_step hbm hc (by rw [hS j hbm, hpj]) (fun b hb' ha => by rw [hS b hb']; exact hanc _ b ha)
        have hst := bad_front (P := P) (Inv := Inv) (fm := fm) (K := K) hsel hoj hpj hq hb (hanc ops.size) hu hp a w hI h
        refine wpOpIn_mono (fun a w hx => ?_) (wpOp_of_step hI hoj hst)
        refine ih (listed.setIfInBounds j true) (L.erase j) (j :: S) u f' (by simpa using hsz) (hnd.erase j) hL' hlen' hD' ?_ hcu (front_pairs hu hp) (fun x hx => hel x ((front_els hu).2 x hx)) ?_ a w hx.1 hx.2
        · intro b hb'
          by_cases hbj : b = j
          · subst hbj; rw [hqj]; simp
          · rw [hq b hbj, ← hS b hb']
            simp [hbj]
        · intro k hk hkl
          by_cases hkj : k = j
          · subst hkj; simp [Array.getD, hsz, hjlt] at hkl
          · exact front_has hkj hu (hh k hk (by rwa [getD_set_ne true (Ne.symm hkj)] at hkl))
      · have hb0 : bad.contains j = false := by simpa using hb
        have hl : lightB fm ops j = true ∨ t.noAlt = true := by
          rcases hkind j hjlt hb0 with h1 | h1
          · exact .inl h1
          · exact .inr (cov_all hc fun b hb' => by rw [hS b hb']; exact hanc _ b (h1 b hb'))
        have hst := good_front (P := P) (Inv := Inv) (fm := fm) (K := K) hsel hoj hpj hqj hq hb0 (hanc ops.size) hl (hh j hjlt h0) hp a w hI h
        refine wpOpIn_mono (fun a w hx => ?_) (wpOp_of_step hI hoj hst)
        refine ih (listed.setIfInBounds j true) (L.erase j) S t f (by simpa using hsz) (hnd.erase j) hL' hlen' hD' ?_ hc hp hel ?_ a w hx.1 hx.2
        · intro b hb'
          have hbj : b ≠ j := fun e => by rw [e] at hb'; exact hb (by simpa using hb')
          rw [hq b hbj]; exact hS b hb'
        · intro k hk hkl
          by_cases hkj : k = j
          · subst hkj; simp [Array.getD, hsz, hjlt] at hkl
          · exact hh k hk (by rwa [getD_set_ne true (Ne.symm hkj)] at hkl)
end tree
end draw

theorem tree_tail {ro : Option Nat} {P : Program} {fm : Fm} {ops : Array Oper} {Inv : World → Prop} {K : Act → World → Prop} {Q : Exit → Act → World → Prop} {a : Act} {w : World} {bad : List Nat} {t : Tr} (hok : treeOk fm ops bad t = true)
    (h1 : Xt P ops Inv fm K t a w) (hI : Inv w) (hq : ∀ a w, K a w → Q .normal a w) :
    wpAnyIn (fen ro) 0 P .any ops Q ops.size (Array.replicate ops.size false) a w := by
  simp only [treeOk, Bool.and_eq_true] at hok
  obtain ⟨⟨⟨⟨⟨⟨⟨hsel, hback⟩, hp⟩, hel⟩, hbs⟩, hhas⟩, hkind⟩, hcov⟩ := hok
  have hstrip : t.strip (fun x => (Array.replicate ops.size false).getD x false) = t := by
    have e : (fun x => (Array.replicate ops.size false).getD x false) = fun _ => false := by funext x; simp [Array.getD]
    rw [e]
    clear hp hel hhas hcov h1
    induction t with
    | done => rfl
    | step i t ih => simp [Tr.strip, ih]
    | alt t u ih1 ih2 => simp [Tr.strip, ih1, ih2]
  have h3 := draw_tree (ro := ro) (P := P) (ops := ops) (Inv := Inv) (fm := fm) (bad := bad) (K := K) (fun j o ho cs b e => by
      have := List.all_eq_true.1 hsel o (by have := Array.mem_of_getElem? ho; simpa using this)
      rw [e] at this; cases this) (fun i o hi e he hb => by
      have hlt : i < ops.size := (Array.getElem?_eq_some_iff.1 hi).1
      have := List.all_eq_true.1 hback i (by simpa using hlt)
      rw [hi] at this
      have := List.all_eq_true.1 this e (by simpa using he)
      simpa [hb] using this) (fun j hj hb => by
      have := List.all_eq_true.1 hkind j (by simpa using hj)
      simp only [Bool.or_eq_true, List.all_eq_true] at this
      rcases this with (h | h) | h
      · rw [hb] at h; cases h
      · exact .inl h
      · exact .inr h) (fun b hb => by simpa using List.all_eq_true.1 hbs b hb)
    ops.size (Array.replicate ops.size false) (List.range ops.size) [] t bad.length (by simp) List.nodup_range (fun j => by
      simp only [List.mem_range]
      constructor
      · intro hj; exact ⟨hj, by simp [Array.getD, hj]⟩
      · exact fun hj => hj.1) (by simp) (fun i hi => by simp [Array.getD] at hi) (fun b hb => by simp [Array.getD]) hcov hp (fun x hx => by simpa using List.all_eq_true.1 hel x hx)
    (fun k hk _ => List.all_eq_true.1 hhas k (by simpa using hk)) a w hI (by rw [hstrip]; exact h1)
  exact wpAny_monoQ (fun e a' w' h => by
    cases e with
    | normal => exact hq _ _ h
    | _ => exact h.elim) _ _ _ _ h3

section code
variable {P : Program} {B : Base} {N : Nat} {F : Fr} {A : List Asn} {Q : Exit → Fr → List Asn → Prop} {K : Fr → List Asn → Prop} {ops : List Oper} {fm : Fm}
def WlT (P : Program) (B : Base) (N : Nat) (fm : Fm) (ops : List Oper) (t : Tr) (F : Fr) (A : List Asn) (K : Fr → List Asn → Prop) : Prop :=
  ∀ R, Ent [R] (mOf fm) → ∀ a w, Rep N a F → Sat B w (R :: A) → Xt P ops.toArray (fun w => Sat B w [R]) fm (Lift B N R a.defers K) t a w
theorem zx (h : K F A) : WlT P B N fm ops .done F A K := fun R hE a w hr hs => ⟨rfl, F, A, hr, hs, h⟩
theorem z1 {t u : Tr} (h1 : WlT P B N fm ops t F A K) (h2 : WlT P B N fm ops u F A K) : WlT P B N fm ops (.alt t u) F A K := fun R hE a w hr hs => ⟨h1 R hE a w hr hs, h2 R hE a w hr hs⟩
theorem zI {i : Nat} {t : Tr} {o : Oper} (ho : ops[i]? = some o) (h : Wl P B N fm ops [o] F A (fun F' A' => WlT P B N fm ops t F' A' K)) : WlT P B N fm ops (.step i t) F A K := fun R hE a w hr hs => by
  have ho' : ops.toArray[i]? = some o := by simpa using ho
  have h1 := h R hE a w hr hs
  simp only [Xt, ho']
  refine stepX_mono hs.hd (fun a' w' _ hx => ?_) h1
  obtain ⟨hd, F', A', q1, q2, q3⟩ := hx
  have := q3 R hE a' w' q1 q2
  rw [hd] at this
  exact this
/-- The walk of a drawn region in the orders of a tree. -/
theorem xK {id : Nat} (t : Tr) (bad : List Nat) (hok : treeOk none ops.toArray bad t = true) (hm : P.follows .mixedOrders = true := by kernel_rfl)
    (h : ∀ K : Fr → List Asn → Prop, (∀ F A, Q .normal F A → K F A) → WlT P B N none ops t F A K) :
    Wc P B N (.region id ops.toArray true) F A Q := fun ro R a w hk hr hs => by
  refine wpIn_region_any hm ?_
  have hs' : Sat B { w with drawn := w.drawn + 1 } (R :: A) := ⟨hs.size, hs.io, hs.base, hs.own⟩
  have h1 := h (fun F A => Q .normal F A) (fun _ _ h => h) R Ent.nil a _ hr hs'
  exact tree_tail hok h1 hs'.hd (fun a' w' ⟨hd, F', A', q1, q2, q3⟩ => ⟨[], F', A', hd, q1, q2, q3⟩)
theorem yY {id : Nat} (M : List Asn) (Ls : List Nat) (t : Tr) (bad : List Nat) {A1 : List Asn} (hok : treeOk (some ([], Ls)) ops.toArray bad t = true) (hm : P.follows .mixedOrders = true := by kernel_rfl) (hp : A.Perm (M ++ A1))
    (h : ∀ K : Fr → List Asn → Prop, (∀ F A, Q .normal F (M ++ A) → K F A) → WlT P B N (some (M, Ls)) ops t F A1 K) :
    Wc P B N (.region id ops.toArray true) F A Q := fun ro R a w hk hr hs => by
  refine wpIn_region_any hm ?_
  have hs' : Sat B { w with drawn := w.drawn + 1 } (lst (R :: M) :: A1) := Sat.ent (L := R :: M ++ A1) (Ent.lst_shut (R :: M) A1) ⟨hs.size, hs.io, hs.base, hs.own.perm (hp.cons R)⟩
  have hE : Ent [lst (R :: M)] M := (Ent.lst_open (R :: M) []).trans (by simpa using Ent.drop R)
  have h1 := h (fun F A => Q .normal F (M ++ A)) (fun _ _ h => h) (lst (R :: M)) hE a _ hr hs'
  have hok' : treeOk (some (M, Ls)) ops.toArray bad t = true := hok
  refine tree_tail hok' h1 hs'.hd (fun a' w' hq => ?_)
  obtain ⟨hd, F', A', h1, h2, h3⟩ := hq
  exact ⟨[], F', M ++ A', hd, h1, h2.ent (Ent.lst_open (R :: M) A'), h3⟩
end code
section rules
variable {P : Program} {B : Base} {N : Nat} {ops rest : List Oper} {F : Fr} {A : List Asn} {K : Fr → List Asn → Prop}
variable {T : TypeId} {pos : String} {aft : Array Edge} {d : Tmp} {fm : Fm} {U : TypeId}
end rules
end Go.Sl
