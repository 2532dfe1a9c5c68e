/- The closed facts on the types and functions of this seat, each asked of the kernel. Written by tyinst.py. No condition. -/
import Derived.Test.YtnoggejkkjngjaaK5
import Derived.Test.YtnoggejkkjngjaaChecked
set_option maxRecDepth 100000
namespace Go.Proofs.Ytnoggejkkjngjaa
open Go Go.Sl
instance : TSize Try.prog 1 1 := ⟨by kernel_rfl⟩
instance : TBytes Try.prog 1 8 := ⟨by kernel_rfl⟩
instance : TCell Try.prog 1 := ⟨by kernel_rfl⟩
instance : TZero Try.prog 1 [.nilFunc] := ⟨by kernel_rfl⟩
instance : TFn Try.prog 1 := ⟨by kernel_rfl⟩
instance : TSize Try.prog 2 1 := ⟨by kernel_rfl⟩
instance : TBytes Try.prog 2 8 := ⟨by kernel_rfl⟩
instance : TCell Try.prog 2 := ⟨by kernel_rfl⟩
instance : TZero Try.prog 2 [.int .i64 0] := ⟨by kernel_rfl⟩
instance : TInt Try.prog 2 .i64 := ⟨by kernel_rfl⟩
instance : TSize Try.prog 3 1 := ⟨by kernel_rfl⟩
instance : TBytes Try.prog 3 8 := ⟨by kernel_rfl⟩
instance : TCell Try.prog 3 := ⟨by kernel_rfl⟩
instance : TZero Try.prog 3 [.int .i64 0] := ⟨by kernel_rfl⟩
instance : TInt Try.prog 3 .i64 := ⟨by kernel_rfl⟩
instance : TSize Try.prog 4 1 := ⟨by kernel_rfl⟩
instance : TBytes Try.prog 4 1 := ⟨by kernel_rfl⟩
instance : TCell Try.prog 4 := ⟨by kernel_rfl⟩
instance : TZero Try.prog 4 [.bool false] := ⟨by kernel_rfl⟩
instance : TSize Try.prog 5 1 := ⟨by kernel_rfl⟩
instance : TBytes Try.prog 5 1 := ⟨by kernel_rfl⟩
instance : TCell Try.prog 5 := ⟨by kernel_rfl⟩
instance : TZero Try.prog 5 [.int .u8 0] := ⟨by kernel_rfl⟩
instance : TInt Try.prog 5 .u8 := ⟨by kernel_rfl⟩
instance : TSize Try.prog 6 1 := ⟨by kernel_rfl⟩
instance : TBytes Try.prog 6 1 := ⟨by kernel_rfl⟩
instance : TCell Try.prog 6 := ⟨by kernel_rfl⟩
instance : TZero Try.prog 6 [.int .u8 0] := ⟨by kernel_rfl⟩
instance : TInt Try.prog 6 .u8 := ⟨by kernel_rfl⟩
instance : TSize Try.prog 7 4 := ⟨by kernel_rfl⟩
instance : TBytes Try.prog 7 24 := ⟨by kernel_rfl⟩
instance : TAgg Try.prog 7 := ⟨by kernel_rfl⟩
instance : TZero Try.prog 7 [.int .i64 0, .int .i64 0, .bool false, .int .u8 0] := ⟨by kernel_rfl⟩
instance : FieldOff Try.prog 7 0 0 2 1 := ⟨by kernel_rfl⟩
instance : FieldOff Try.prog 7 1 1 3 1 := ⟨by kernel_rfl⟩
instance : FieldOff Try.prog 7 2 2 4 1 := ⟨by kernel_rfl⟩
instance : FieldOff Try.prog 7 3 3 6 1 := ⟨by kernel_rfl⟩
instance : TStructOk Try.prog 7 := ⟨by kernel_rfl⟩
instance : TStruct Try.prog 7 [(0, 1), (1, 1), (2, 1), (3, 1)] := ⟨by kernel_rfl⟩
instance : TSize Try.prog 8 4 := ⟨by kernel_rfl⟩
instance : TBytes Try.prog 8 24 := ⟨by kernel_rfl⟩
instance : TAgg Try.prog 8 := ⟨by kernel_rfl⟩
instance : TZero Try.prog 8 [.int .i64 0, .int .i64 0, .bool false, .int .u8 0] := ⟨by kernel_rfl⟩
instance : FieldOff Try.prog 8 0 0 2 1 := ⟨by kernel_rfl⟩
instance : FieldOff Try.prog 8 1 1 3 1 := ⟨by kernel_rfl⟩
instance : FieldOff Try.prog 8 2 2 4 1 := ⟨by kernel_rfl⟩
instance : FieldOff Try.prog 8 3 3 6 1 := ⟨by kernel_rfl⟩
instance : TStructOk Try.prog 8 := ⟨by kernel_rfl⟩
instance : TStruct Try.prog 8 [(0, 1), (1, 1), (2, 1), (3, 1)] := ⟨by kernel_rfl⟩
instance : TSize Try.prog 9 1 := ⟨by kernel_rfl⟩
instance : TBytes Try.prog 9 16 := ⟨by kernel_rfl⟩
instance : TCell Try.prog 9 := ⟨by kernel_rfl⟩
instance : TZero Try.prog 9 [.string ByteArray.empty] := ⟨by kernel_rfl⟩
instance : TStr Try.prog 9 := ⟨by kernel_rfl⟩
instance : TSize Try.prog 10 1 := ⟨by kernel_rfl⟩
instance : TBytes Try.prog 10 16 := ⟨by kernel_rfl⟩
instance : TCell Try.prog 10 := ⟨by kernel_rfl⟩
instance : TZero Try.prog 10 [.string ByteArray.empty] := ⟨by kernel_rfl⟩
instance : TStr Try.prog 10 := ⟨by kernel_rfl⟩
instance : TSize Try.prog 11 1 := ⟨by kernel_rfl⟩
instance : TBytes Try.prog 11 16 := ⟨by kernel_rfl⟩
instance : TCell Try.prog 11 := ⟨by kernel_rfl⟩
instance : TZero Try.prog 11 [.string ByteArray.empty] := ⟨by kernel_rfl⟩
instance : TStr Try.prog 11 := ⟨by kernel_rfl⟩
instance : TSize Try.prog 12 1 := ⟨by kernel_rfl⟩
instance : TBytes Try.prog 12 8 := ⟨by kernel_rfl⟩
instance : TCell Try.prog 12 := ⟨by kernel_rfl⟩
instance : TZero Try.prog 12 [.int .u64 0] := ⟨by kernel_rfl⟩
instance : TInt Try.prog 12 .u64 := ⟨by kernel_rfl⟩
instance : TSize Try.prog 13 2 := ⟨by kernel_rfl⟩
instance : TBytes Try.prog 13 24 := ⟨by kernel_rfl⟩
instance : TAgg Try.prog 13 := ⟨by kernel_rfl⟩
instance : TZero Try.prog 13 [.string ByteArray.empty, .int .u64 0] := ⟨by kernel_rfl⟩
instance : FieldOff Try.prog 13 0 0 9 1 := ⟨by kernel_rfl⟩
instance : FieldOff Try.prog 13 1 1 12 1 := ⟨by kernel_rfl⟩
instance : TStructOk Try.prog 13 := ⟨by kernel_rfl⟩
instance : TStruct Try.prog 13 [(0, 1), (1, 1)] := ⟨by kernel_rfl⟩
instance : TSize Try.prog 14 2 := ⟨by kernel_rfl⟩
instance : TBytes Try.prog 14 24 := ⟨by kernel_rfl⟩
instance : TAgg Try.prog 14 := ⟨by kernel_rfl⟩
instance : TZero Try.prog 14 [.string ByteArray.empty, .int .u64 0] := ⟨by kernel_rfl⟩
instance : FieldOff Try.prog 14 0 0 9 1 := ⟨by kernel_rfl⟩
instance : FieldOff Try.prog 14 1 1 12 1 := ⟨by kernel_rfl⟩
instance : TStructOk Try.prog 14 := ⟨by kernel_rfl⟩
instance : TStruct Try.prog 14 [(0, 1), (1, 1)] := ⟨by kernel_rfl⟩
instance : TSize Try.prog 15 1 := ⟨by kernel_rfl⟩
instance : TBytes Try.prog 15 8 := ⟨by kernel_rfl⟩
instance : TCell Try.prog 15 := ⟨by kernel_rfl⟩
instance : TZero Try.prog 15 [.pointer none] := ⟨by kernel_rfl⟩
instance : TPtr Try.prog 15 171 := ⟨by kernel_rfl⟩
instance : TSize Try.prog 16 1 := ⟨by kernel_rfl⟩
instance : TBytes Try.prog 16 8 := ⟨by kernel_rfl⟩
instance : TCell Try.prog 16 := ⟨by kernel_rfl⟩
instance : TZero Try.prog 16 [.pointer none] := ⟨by kernel_rfl⟩
instance : TPtr Try.prog 16 174 := ⟨by kernel_rfl⟩
instance : TSize Try.prog 17 1 := ⟨by kernel_rfl⟩
instance : TBytes Try.prog 17 8 := ⟨by kernel_rfl⟩
instance : TCell Try.prog 17 := ⟨by kernel_rfl⟩
instance : TZero Try.prog 17 [.pointer none] := ⟨by kernel_rfl⟩
instance : TPtr Try.prog 17 182 := ⟨by kernel_rfl⟩
instance : TSize Try.prog 18 1 := ⟨by kernel_rfl⟩
instance : TBytes Try.prog 18 8 := ⟨by kernel_rfl⟩
instance : TAgg Try.prog 18 := ⟨by kernel_rfl⟩
instance : TZero Try.prog 18 [.pointer none] := ⟨by kernel_rfl⟩
instance : FieldOff Try.prog 18 0 0 17 1 := ⟨by kernel_rfl⟩
instance : TStructOk Try.prog 18 := ⟨by kernel_rfl⟩
instance : TStruct Try.prog 18 [(0, 1)] := ⟨by kernel_rfl⟩
instance : TSize Try.prog 19 1 := ⟨by kernel_rfl⟩
instance : TBytes Try.prog 19 8 := ⟨by kernel_rfl⟩
instance : TAgg Try.prog 19 := ⟨by kernel_rfl⟩
instance : TZero Try.prog 19 [.pointer none] := ⟨by kernel_rfl⟩
instance : FieldOff Try.prog 19 0 0 17 1 := ⟨by kernel_rfl⟩
instance : TStructOk Try.prog 19 := ⟨by kernel_rfl⟩
instance : TStruct Try.prog 19 [(0, 1)] := ⟨by kernel_rfl⟩
instance : TSize Try.prog 20 1 := ⟨by kernel_rfl⟩
instance : TBytes Try.prog 20 16 := ⟨by kernel_rfl⟩
instance : TCell Try.prog 20 := ⟨by kernel_rfl⟩
instance : TZero Try.prog 20 [.nilIface] := ⟨by kernel_rfl⟩
instance : TSize Try.prog 21 1 := ⟨by kernel_rfl⟩
instance : TBytes Try.prog 21 4 := ⟨by kernel_rfl⟩
instance : TCell Try.prog 21 := ⟨by kernel_rfl⟩
instance : TZero Try.prog 21 [.int .i32 0] := ⟨by kernel_rfl⟩
instance : TInt Try.prog 21 .i32 := ⟨by kernel_rfl⟩
instance : TSize Try.prog 22 1 := ⟨by kernel_rfl⟩
instance : TBytes Try.prog 22 24 := ⟨by kernel_rfl⟩
instance : TCell Try.prog 22 := ⟨by kernel_rfl⟩
instance : TZero Try.prog 22 [.slice none 0 0] := ⟨by kernel_rfl⟩
instance : TSl Try.prog 22 9 := ⟨by kernel_rfl⟩
instance : TSize Try.prog 23 1 := ⟨by kernel_rfl⟩
instance : TBytes Try.prog 23 8 := ⟨by kernel_rfl⟩
instance : TCell Try.prog 23 := ⟨by kernel_rfl⟩
instance : TZero Try.prog 23 [.nilFunc] := ⟨by kernel_rfl⟩
instance : TFn Try.prog 23 := ⟨by kernel_rfl⟩
instance : TSize Try.prog 24 1 := ⟨by kernel_rfl⟩
instance : TBytes Try.prog 24 8 := ⟨by kernel_rfl⟩
instance : TCell Try.prog 24 := ⟨by kernel_rfl⟩
instance : TZero Try.prog 24 [.pointer none] := ⟨by kernel_rfl⟩
instance : TPtr Try.prog 24 83 := ⟨by kernel_rfl⟩
instance : TSize Try.prog 25 1 := ⟨by kernel_rfl⟩
instance : TBytes Try.prog 25 8 := ⟨by kernel_rfl⟩
instance : TCell Try.prog 25 := ⟨by kernel_rfl⟩
instance : TZero Try.prog 25 [.int .i64 0] := ⟨by kernel_rfl⟩
instance : TInt Try.prog 25 .i64 := ⟨by kernel_rfl⟩
instance : TSize Try.prog 27 1 := ⟨by kernel_rfl⟩
instance : TBytes Try.prog 27 8 := ⟨by kernel_rfl⟩
instance : TCell Try.prog 27 := ⟨by kernel_rfl⟩
instance : TZero Try.prog 27 [.nilFunc] := ⟨by kernel_rfl⟩
instance : TFn Try.prog 27 := ⟨by kernel_rfl⟩
instance : TSize Try.prog 28 3 := ⟨by kernel_rfl⟩
instance : TBytes Try.prog 28 24 := ⟨by kernel_rfl⟩
instance : TAgg Try.prog 28 := ⟨by kernel_rfl⟩
instance : TZero Try.prog 28 [.int .i64 0, .int .i64 0, .bool false] := ⟨by kernel_rfl⟩
instance : FieldOff Try.prog 28 0 0 3 1 := ⟨by kernel_rfl⟩
instance : FieldOff Try.prog 28 1 1 3 1 := ⟨by kernel_rfl⟩
instance : FieldOff Try.prog 28 2 2 4 1 := ⟨by kernel_rfl⟩
instance : TStructOk Try.prog 28 := ⟨by kernel_rfl⟩
instance : TStruct Try.prog 28 [(0, 1), (1, 1), (2, 1)] := ⟨by kernel_rfl⟩
instance : TEq Try.prog 28 [.i .i64, .i .i64, .b] := ⟨by kernel_rfl, by kernel_rfl⟩
instance : TSize Try.prog 29 3 := ⟨by kernel_rfl⟩
instance : TBytes Try.prog 29 24 := ⟨by kernel_rfl⟩
instance : TAgg Try.prog 29 := ⟨by kernel_rfl⟩
instance : TZero Try.prog 29 [.int .i64 0, .int .i64 0, .bool false] := ⟨by kernel_rfl⟩
instance : FieldOff Try.prog 29 0 0 3 1 := ⟨by kernel_rfl⟩
instance : FieldOff Try.prog 29 1 1 3 1 := ⟨by kernel_rfl⟩
instance : FieldOff Try.prog 29 2 2 4 1 := ⟨by kernel_rfl⟩
instance : TStructOk Try.prog 29 := ⟨by kernel_rfl⟩
instance : TStruct Try.prog 29 [(0, 1), (1, 1), (2, 1)] := ⟨by kernel_rfl⟩
instance : TEq Try.prog 29 [.i .i64, .i .i64, .b] := ⟨by kernel_rfl, by kernel_rfl⟩
instance : TSize Try.prog 30 1 := ⟨by kernel_rfl⟩
instance : TBytes Try.prog 30 24 := ⟨by kernel_rfl⟩
instance : TCell Try.prog 30 := ⟨by kernel_rfl⟩
instance : TZero Try.prog 30 [.slice none 0 0] := ⟨by kernel_rfl⟩
instance : TSl Try.prog 30 29 := ⟨by kernel_rfl⟩
instance : TSize Try.prog 31 1 := ⟨by kernel_rfl⟩
instance : TBytes Try.prog 31 8 := ⟨by kernel_rfl⟩
instance : TCell Try.prog 31 := ⟨by kernel_rfl⟩
instance : TZero Try.prog 31 [.nilFunc] := ⟨by kernel_rfl⟩
instance : TFn Try.prog 31 := ⟨by kernel_rfl⟩
instance : TSize Try.prog 32 2 := ⟨by kernel_rfl⟩
instance : TBytes Try.prog 32 16 := ⟨by kernel_rfl⟩
instance : TAgg Try.prog 32 := ⟨by kernel_rfl⟩
instance : TZero Try.prog 32 [.int .i64 0, .int .i64 0] := ⟨by kernel_rfl⟩
instance : FieldOff Try.prog 32 0 0 3 1 := ⟨by kernel_rfl⟩
instance : FieldOff Try.prog 32 1 1 3 1 := ⟨by kernel_rfl⟩
instance : TStructOk Try.prog 32 := ⟨by kernel_rfl⟩
instance : TStruct Try.prog 32 [(0, 1), (1, 1)] := ⟨by kernel_rfl⟩
instance : TEq Try.prog 32 [.i .i64, .i .i64] := ⟨by kernel_rfl, by kernel_rfl⟩
instance : TSize Try.prog 33 2 := ⟨by kernel_rfl⟩
instance : TBytes Try.prog 33 16 := ⟨by kernel_rfl⟩
instance : TAgg Try.prog 33 := ⟨by kernel_rfl⟩
instance : TZero Try.prog 33 [.int .i64 0, .int .i64 0] := ⟨by kernel_rfl⟩
instance : FieldOff Try.prog 33 0 0 3 1 := ⟨by kernel_rfl⟩
instance : FieldOff Try.prog 33 1 1 3 1 := ⟨by kernel_rfl⟩
instance : TStructOk Try.prog 33 := ⟨by kernel_rfl⟩
instance : TStruct Try.prog 33 [(0, 1), (1, 1)] := ⟨by kernel_rfl⟩
instance : TEq Try.prog 33 [.i .i64, .i .i64] := ⟨by kernel_rfl, by kernel_rfl⟩
instance : TSize Try.prog 34 7 := ⟨by kernel_rfl⟩
instance : TBytes Try.prog 34 72 := ⟨by kernel_rfl⟩
instance : TAgg Try.prog 34 := ⟨by kernel_rfl⟩
instance : TZero Try.prog 34 [.int .i64 0, .int .i64 0, .int .i64 0, .int .i64 0, .string ByteArray.empty, .bool false, .string ByteArray.empty] := ⟨by kernel_rfl⟩
instance : FieldOff Try.prog 34 0 0 33 2 := ⟨by kernel_rfl⟩
instance : FieldOff Try.prog 34 1 2 3 1 := ⟨by kernel_rfl⟩
instance : FieldOff Try.prog 34 2 3 3 1 := ⟨by kernel_rfl⟩
instance : FieldOff Try.prog 34 3 4 9 1 := ⟨by kernel_rfl⟩
instance : FieldOff Try.prog 34 4 5 4 1 := ⟨by kernel_rfl⟩
instance : FieldOff Try.prog 34 5 6 9 1 := ⟨by kernel_rfl⟩
instance : TStructOk Try.prog 34 := ⟨by kernel_rfl⟩
instance : TStruct Try.prog 34 [(0, 2), (2, 1), (3, 1), (4, 1), (5, 1), (6, 1)] := ⟨by kernel_rfl⟩
instance : TEq Try.prog 34 [.i .i64, .i .i64, .i .i64, .i .i64, .s, .b, .s] := ⟨by kernel_rfl, by kernel_rfl⟩
instance : TSize Try.prog 35 7 := ⟨by kernel_rfl⟩
instance : TBytes Try.prog 35 72 := ⟨by kernel_rfl⟩
instance : TAgg Try.prog 35 := ⟨by kernel_rfl⟩
instance : TZero Try.prog 35 [.int .i64 0, .int .i64 0, .int .i64 0, .int .i64 0, .string ByteArray.empty, .bool false, .string ByteArray.empty] := ⟨by kernel_rfl⟩
instance : FieldOff Try.prog 35 0 0 33 2 := ⟨by kernel_rfl⟩
instance : FieldOff Try.prog 35 1 2 3 1 := ⟨by kernel_rfl⟩
instance : FieldOff Try.prog 35 2 3 3 1 := ⟨by kernel_rfl⟩
instance : FieldOff Try.prog 35 3 4 9 1 := ⟨by kernel_rfl⟩
instance : FieldOff Try.prog 35 4 5 4 1 := ⟨by kernel_rfl⟩
instance : FieldOff Try.prog 35 5 6 9 1 := ⟨by kernel_rfl⟩
instance : TStructOk Try.prog 35 := ⟨by kernel_rfl⟩
instance : TStruct Try.prog 35 [(0, 2), (2, 1), (3, 1), (4, 1), (5, 1), (6, 1)] := ⟨by kernel_rfl⟩
instance : TEq Try.prog 35 [.i .i64, .i .i64, .i .i64, .i .i64, .s, .b, .s] := ⟨by kernel_rfl, by kernel_rfl⟩
instance : TSize Try.prog 36 1 := ⟨by kernel_rfl⟩
instance : TBytes Try.prog 36 8 := ⟨by kernel_rfl⟩
instance : TCell Try.prog 36 := ⟨by kernel_rfl⟩
instance : TZero Try.prog 36 [.nilFunc] := ⟨by kernel_rfl⟩
instance : TFn Try.prog 36 := ⟨by kernel_rfl⟩
instance : TSize Try.prog 37 1 := ⟨by kernel_rfl⟩
instance : TBytes Try.prog 37 24 := ⟨by kernel_rfl⟩
instance : TCell Try.prog 37 := ⟨by kernel_rfl⟩
instance : TZero Try.prog 37 [.slice none 0 0] := ⟨by kernel_rfl⟩
instance : TSl Try.prog 37 67 := ⟨by kernel_rfl⟩
instance : TSize Try.prog 38 1 := ⟨by kernel_rfl⟩
instance : TBytes Try.prog 38 24 := ⟨by kernel_rfl⟩
instance : TCell Try.prog 38 := ⟨by kernel_rfl⟩
instance : TZero Try.prog 38 [.slice none 0 0] := ⟨by kernel_rfl⟩
instance : TSl Try.prog 38 69 := ⟨by kernel_rfl⟩
instance : TSize Try.prog 39 4 := ⟨by kernel_rfl⟩
instance : TBytes Try.prog 39 64 := ⟨by kernel_rfl⟩
instance : TAgg Try.prog 39 := ⟨by kernel_rfl⟩
instance : TZero Try.prog 39 [.int .i64 0, .int .i64 0, .slice none 0 0, .slice none 0 0] := ⟨by kernel_rfl⟩
instance : FieldOff Try.prog 39 0 0 33 2 := ⟨by kernel_rfl⟩
instance : FieldOff Try.prog 39 1 2 37 1 := ⟨by kernel_rfl⟩
instance : FieldOff Try.prog 39 2 3 38 1 := ⟨by kernel_rfl⟩
instance : TStructOk Try.prog 39 := ⟨by kernel_rfl⟩
instance : TStruct Try.prog 39 [(0, 2), (2, 1), (3, 1)] := ⟨by kernel_rfl⟩
instance : TSize Try.prog 40 4 := ⟨by kernel_rfl⟩
instance : TBytes Try.prog 40 64 := ⟨by kernel_rfl⟩
instance : TAgg Try.prog 40 := ⟨by kernel_rfl⟩
instance : TZero Try.prog 40 [.int .i64 0, .int .i64 0, .slice none 0 0, .slice none 0 0] := ⟨by kernel_rfl⟩
instance : FieldOff Try.prog 40 0 0 33 2 := ⟨by kernel_rfl⟩
instance : FieldOff Try.prog 40 1 2 37 1 := ⟨by kernel_rfl⟩
instance : FieldOff Try.prog 40 2 3 38 1 := ⟨by kernel_rfl⟩
instance : TStructOk Try.prog 40 := ⟨by kernel_rfl⟩
instance : TStruct Try.prog 40 [(0, 2), (2, 1), (3, 1)] := ⟨by kernel_rfl⟩
instance : TSize Try.prog 41 16 := ⟨by kernel_rfl⟩
instance : TBytes Try.prog 41 176 := ⟨by kernel_rfl⟩
instance : TAgg Try.prog 41 := ⟨by kernel_rfl⟩
instance : TZero Try.prog 41 [.int .i64 0, .int .i64 0, .int .i64 0, .int .i64 0, .int .i64 0, .string ByteArray.empty, .bool false, .string ByteArray.empty, .int .i64 0, .int .i64 0, .bool false, .int .i64 0, .int .i64 0, .int .i64 0, .slice none 0 0, .slice none 0 0] := ⟨by kernel_rfl⟩
instance : FieldOff Try.prog 41 0 0 3 1 := ⟨by kernel_rfl⟩
instance : FieldOff Try.prog 41 1 1 35 7 := ⟨by kernel_rfl⟩
instance : FieldOff Try.prog 41 2 8 29 3 := ⟨by kernel_rfl⟩
instance : FieldOff Try.prog 41 3 11 3 1 := ⟨by kernel_rfl⟩
instance : FieldOff Try.prog 41 4 12 40 4 := ⟨by kernel_rfl⟩
instance : TStructOk Try.prog 41 := ⟨by kernel_rfl⟩
instance : TStruct Try.prog 41 [(0, 1), (1, 7), (8, 3), (11, 1), (12, 4)] := ⟨by kernel_rfl⟩
instance : TSize Try.prog 42 16 := ⟨by kernel_rfl⟩
instance : TBytes Try.prog 42 176 := ⟨by kernel_rfl⟩
instance : TAgg Try.prog 42 := ⟨by kernel_rfl⟩
instance : TZero Try.prog 42 [.int .i64 0, .int .i64 0, .int .i64 0, .int .i64 0, .int .i64 0, .string ByteArray.empty, .bool false, .string ByteArray.empty, .int .i64 0, .int .i64 0, .bool false, .int .i64 0, .int .i64 0, .int .i64 0, .slice none 0 0, .slice none 0 0] := ⟨by kernel_rfl⟩
instance : FieldOff Try.prog 42 0 0 3 1 := ⟨by kernel_rfl⟩
instance : FieldOff Try.prog 42 1 1 35 7 := ⟨by kernel_rfl⟩
instance : FieldOff Try.prog 42 2 8 29 3 := ⟨by kernel_rfl⟩
instance : FieldOff Try.prog 42 3 11 3 1 := ⟨by kernel_rfl⟩
instance : FieldOff Try.prog 42 4 12 40 4 := ⟨by kernel_rfl⟩
instance : TStructOk Try.prog 42 := ⟨by kernel_rfl⟩
instance : TStruct Try.prog 42 [(0, 1), (1, 7), (8, 3), (11, 1), (12, 4)] := ⟨by kernel_rfl⟩
instance : TSize Try.prog 43 1 := ⟨by kernel_rfl⟩
instance : TBytes Try.prog 43 8 := ⟨by kernel_rfl⟩
instance : TCell Try.prog 43 := ⟨by kernel_rfl⟩
instance : TZero Try.prog 43 [.nilFunc] := ⟨by kernel_rfl⟩
instance : TFn Try.prog 43 := ⟨by kernel_rfl⟩
instance : TSize Try.prog 44 1 := ⟨by kernel_rfl⟩
instance : TBytes Try.prog 44 8 := ⟨by kernel_rfl⟩
instance : TCell Try.prog 44 := ⟨by kernel_rfl⟩
instance : TZero Try.prog 44 [.nilFunc] := ⟨by kernel_rfl⟩
instance : TFn Try.prog 44 := ⟨by kernel_rfl⟩
instance : TSize Try.prog 45 4 := ⟨by kernel_rfl⟩
instance : TBytes Try.prog 45 40 := ⟨by kernel_rfl⟩
instance : TAgg Try.prog 45 := ⟨by kernel_rfl⟩
instance : TZero Try.prog 45 [.int .i64 0, .int .i64 0, .bool false, .string ByteArray.empty] := ⟨by kernel_rfl⟩
instance : FieldOff Try.prog 45 0 0 33 2 := ⟨by kernel_rfl⟩
instance : FieldOff Try.prog 45 1 2 4 1 := ⟨by kernel_rfl⟩
instance : FieldOff Try.prog 45 2 3 9 1 := ⟨by kernel_rfl⟩
instance : TStructOk Try.prog 45 := ⟨by kernel_rfl⟩
instance : TStruct Try.prog 45 [(0, 2), (2, 1), (3, 1)] := ⟨by kernel_rfl⟩
instance : TEq Try.prog 45 [.i .i64, .i .i64, .b, .s] := ⟨by kernel_rfl, by kernel_rfl⟩
instance : TSize Try.prog 46 4 := ⟨by kernel_rfl⟩
instance : TBytes Try.prog 46 40 := ⟨by kernel_rfl⟩
instance : TAgg Try.prog 46 := ⟨by kernel_rfl⟩
instance : TZero Try.prog 46 [.int .i64 0, .int .i64 0, .bool false, .string ByteArray.empty] := ⟨by kernel_rfl⟩
instance : FieldOff Try.prog 46 0 0 33 2 := ⟨by kernel_rfl⟩
instance : FieldOff Try.prog 46 1 2 4 1 := ⟨by kernel_rfl⟩
instance : FieldOff Try.prog 46 2 3 9 1 := ⟨by kernel_rfl⟩
instance : TStructOk Try.prog 46 := ⟨by kernel_rfl⟩
instance : TStruct Try.prog 46 [(0, 2), (2, 1), (3, 1)] := ⟨by kernel_rfl⟩
instance : TEq Try.prog 46 [.i .i64, .i .i64, .b, .s] := ⟨by kernel_rfl, by kernel_rfl⟩
instance : TSize Try.prog 47 1 := ⟨by kernel_rfl⟩
instance : TBytes Try.prog 47 8 := ⟨by kernel_rfl⟩
instance : TCell Try.prog 47 := ⟨by kernel_rfl⟩
instance : TZero Try.prog 47 [.nilFunc] := ⟨by kernel_rfl⟩
instance : TFn Try.prog 47 := ⟨by kernel_rfl⟩
instance : TSize Try.prog 48 1 := ⟨by kernel_rfl⟩
instance : TBytes Try.prog 48 8 := ⟨by kernel_rfl⟩
instance : TCell Try.prog 48 := ⟨by kernel_rfl⟩
instance : TZero Try.prog 48 [.nilFunc] := ⟨by kernel_rfl⟩
instance : TFn Try.prog 48 := ⟨by kernel_rfl⟩
instance : TSize Try.prog 49 1 := ⟨by kernel_rfl⟩
instance : TBytes Try.prog 49 24 := ⟨by kernel_rfl⟩
instance : TCell Try.prog 49 := ⟨by kernel_rfl⟩
instance : TZero Try.prog 49 [.slice none 0 0] := ⟨by kernel_rfl⟩
instance : TSl Try.prog 49 52 := ⟨by kernel_rfl⟩
instance : TSize Try.prog 50 1 := ⟨by kernel_rfl⟩
instance : TBytes Try.prog 50 8 := ⟨by kernel_rfl⟩
instance : TCell Try.prog 50 := ⟨by kernel_rfl⟩
instance : TZero Try.prog 50 [.nilFunc] := ⟨by kernel_rfl⟩
instance : TFn Try.prog 50 := ⟨by kernel_rfl⟩
instance : TSize Try.prog 51 1 := ⟨by kernel_rfl⟩
instance : TBytes Try.prog 51 8 := ⟨by kernel_rfl⟩
instance : TCell Try.prog 51 := ⟨by kernel_rfl⟩
instance : TZero Try.prog 51 [.nilFunc] := ⟨by kernel_rfl⟩
instance : TFn Try.prog 51 := ⟨by kernel_rfl⟩
instance : TSize Try.prog 52 16 := ⟨by kernel_rfl⟩
instance : TBytes Try.prog 52 176 := ⟨by kernel_rfl⟩
instance : TAgg Try.prog 52 := ⟨by kernel_rfl⟩
instance : TZero Try.prog 52 [.int .i64 0, .int .i64 0, .int .i64 0, .int .i64 0, .int .i64 0, .string ByteArray.empty, .bool false, .string ByteArray.empty, .int .i64 0, .int .i64 0, .bool false, .int .i64 0, .int .i64 0, .int .i64 0, .slice none 0 0, .slice none 0 0] := ⟨by kernel_rfl⟩
instance : FieldOff Try.prog 52 0 0 3 1 := ⟨by kernel_rfl⟩
instance : FieldOff Try.prog 52 1 1 35 7 := ⟨by kernel_rfl⟩
instance : FieldOff Try.prog 52 2 8 29 3 := ⟨by kernel_rfl⟩
instance : FieldOff Try.prog 52 3 11 3 1 := ⟨by kernel_rfl⟩
instance : FieldOff Try.prog 52 4 12 40 4 := ⟨by kernel_rfl⟩
instance : TStructOk Try.prog 52 := ⟨by kernel_rfl⟩
instance : TStruct Try.prog 52 [(0, 1), (1, 7), (8, 3), (11, 1), (12, 4)] := ⟨by kernel_rfl⟩
instance : TSize Try.prog 53 1 := ⟨by kernel_rfl⟩
instance : TBytes Try.prog 53 8 := ⟨by kernel_rfl⟩
instance : TCell Try.prog 53 := ⟨by kernel_rfl⟩
instance : TZero Try.prog 53 [.nilFunc] := ⟨by kernel_rfl⟩
instance : TFn Try.prog 53 := ⟨by kernel_rfl⟩
instance : TSize Try.prog 54 1 := ⟨by kernel_rfl⟩
instance : TBytes Try.prog 54 8 := ⟨by kernel_rfl⟩
instance : TCell Try.prog 54 := ⟨by kernel_rfl⟩
instance : TZero Try.prog 54 [.nilFunc] := ⟨by kernel_rfl⟩
instance : TFn Try.prog 54 := ⟨by kernel_rfl⟩
instance : TSize Try.prog 55 1 := ⟨by kernel_rfl⟩
instance : TBytes Try.prog 55 8 := ⟨by kernel_rfl⟩
instance : TCell Try.prog 55 := ⟨by kernel_rfl⟩
instance : TZero Try.prog 55 [.nilFunc] := ⟨by kernel_rfl⟩
instance : TFn Try.prog 55 := ⟨by kernel_rfl⟩
instance : TSize Try.prog 56 1 := ⟨by kernel_rfl⟩
instance : TBytes Try.prog 56 8 := ⟨by kernel_rfl⟩
instance : TCell Try.prog 56 := ⟨by kernel_rfl⟩
instance : TZero Try.prog 56 [.nilFunc] := ⟨by kernel_rfl⟩
instance : TFn Try.prog 56 := ⟨by kernel_rfl⟩
instance : TSize Try.prog 57 1 := ⟨by kernel_rfl⟩
instance : TBytes Try.prog 57 8 := ⟨by kernel_rfl⟩
instance : TCell Try.prog 57 := ⟨by kernel_rfl⟩
instance : TZero Try.prog 57 [.nilFunc] := ⟨by kernel_rfl⟩
instance : TFn Try.prog 57 := ⟨by kernel_rfl⟩
instance : TSize Try.prog 58 1 := ⟨by kernel_rfl⟩
instance : TBytes Try.prog 58 24 := ⟨by kernel_rfl⟩
instance : TCell Try.prog 58 := ⟨by kernel_rfl⟩
instance : TZero Try.prog 58 [.slice none 0 0] := ⟨by kernel_rfl⟩
instance : TSl Try.prog 58 35 := ⟨by kernel_rfl⟩
instance : TSize Try.prog 59 1 := ⟨by kernel_rfl⟩
instance : TBytes Try.prog 59 8 := ⟨by kernel_rfl⟩
instance : TCell Try.prog 59 := ⟨by kernel_rfl⟩
instance : TZero Try.prog 59 [.nilFunc] := ⟨by kernel_rfl⟩
instance : TFn Try.prog 59 := ⟨by kernel_rfl⟩
instance : TSize Try.prog 61 1 := ⟨by kernel_rfl⟩
instance : TBytes Try.prog 61 8 := ⟨by kernel_rfl⟩
instance : TCell Try.prog 61 := ⟨by kernel_rfl⟩
instance : TZero Try.prog 61 [.nilFunc] := ⟨by kernel_rfl⟩
instance : TFn Try.prog 61 := ⟨by kernel_rfl⟩
instance : TSize Try.prog 62 1 := ⟨by kernel_rfl⟩
instance : TBytes Try.prog 62 8 := ⟨by kernel_rfl⟩
instance : TCell Try.prog 62 := ⟨by kernel_rfl⟩
instance : TZero Try.prog 62 [.nilFunc] := ⟨by kernel_rfl⟩
instance : TFn Try.prog 62 := ⟨by kernel_rfl⟩
instance : TSize Try.prog 63 1 := ⟨by kernel_rfl⟩
instance : TBytes Try.prog 63 8 := ⟨by kernel_rfl⟩
instance : TCell Try.prog 63 := ⟨by kernel_rfl⟩
instance : TZero Try.prog 63 [.nilFunc] := ⟨by kernel_rfl⟩
instance : TFn Try.prog 63 := ⟨by kernel_rfl⟩
instance : TSize Try.prog 64 1 := ⟨by kernel_rfl⟩
instance : TBytes Try.prog 64 8 := ⟨by kernel_rfl⟩
instance : TCell Try.prog 64 := ⟨by kernel_rfl⟩
instance : TZero Try.prog 64 [.nilFunc] := ⟨by kernel_rfl⟩
instance : TFn Try.prog 64 := ⟨by kernel_rfl⟩
instance : TSize Try.prog 65 1 := ⟨by kernel_rfl⟩
instance : TBytes Try.prog 65 8 := ⟨by kernel_rfl⟩
instance : TCell Try.prog 65 := ⟨by kernel_rfl⟩
instance : TZero Try.prog 65 [.nilFunc] := ⟨by kernel_rfl⟩
instance : TFn Try.prog 65 := ⟨by kernel_rfl⟩
instance : TSize Try.prog 66 5 := ⟨by kernel_rfl⟩
instance : TBytes Try.prog 66 56 := ⟨by kernel_rfl⟩
instance : TAgg Try.prog 66 := ⟨by kernel_rfl⟩
instance : TZero Try.prog 66 [.string ByteArray.empty, .int .i64 0, .int .i64 0, .bool false, .string ByteArray.empty] := ⟨by kernel_rfl⟩
instance : FieldOff Try.prog 66 0 0 9 1 := ⟨by kernel_rfl⟩
instance : FieldOff Try.prog 66 1 1 46 4 := ⟨by kernel_rfl⟩
instance : TStructOk Try.prog 66 := ⟨by kernel_rfl⟩
instance : TStruct Try.prog 66 [(0, 1), (1, 4)] := ⟨by kernel_rfl⟩
instance : TEq Try.prog 66 [.s, .i .i64, .i .i64, .b, .s] := ⟨by kernel_rfl, by kernel_rfl⟩
instance : TSize Try.prog 67 5 := ⟨by kernel_rfl⟩
instance : TBytes Try.prog 67 56 := ⟨by kernel_rfl⟩
instance : TAgg Try.prog 67 := ⟨by kernel_rfl⟩
instance : TZero Try.prog 67 [.string ByteArray.empty, .int .i64 0, .int .i64 0, .bool false, .string ByteArray.empty] := ⟨by kernel_rfl⟩
instance : FieldOff Try.prog 67 0 0 9 1 := ⟨by kernel_rfl⟩
instance : FieldOff Try.prog 67 1 1 46 4 := ⟨by kernel_rfl⟩
instance : TStructOk Try.prog 67 := ⟨by kernel_rfl⟩
instance : TStruct Try.prog 67 [(0, 1), (1, 4)] := ⟨by kernel_rfl⟩
instance : TEq Try.prog 67 [.s, .i .i64, .i .i64, .b, .s] := ⟨by kernel_rfl, by kernel_rfl⟩
instance : TSize Try.prog 68 4 := ⟨by kernel_rfl⟩
instance : TBytes Try.prog 68 32 := ⟨by kernel_rfl⟩
instance : TAgg Try.prog 68 := ⟨by kernel_rfl⟩
instance : TZero Try.prog 68 [.int .i64 0, .int .i64 0, .int .i64 0, .int .i64 0] := ⟨by kernel_rfl⟩
instance : FieldOff Try.prog 68 0 0 3 1 := ⟨by kernel_rfl⟩
instance : FieldOff Try.prog 68 1 1 3 1 := ⟨by kernel_rfl⟩
instance : FieldOff Try.prog 68 2 2 33 2 := ⟨by kernel_rfl⟩
instance : TStructOk Try.prog 68 := ⟨by kernel_rfl⟩
instance : TStruct Try.prog 68 [(0, 1), (1, 1), (2, 2)] := ⟨by kernel_rfl⟩
instance : TEq Try.prog 68 [.i .i64, .i .i64, .i .i64, .i .i64] := ⟨by kernel_rfl, by kernel_rfl⟩
instance : TSize Try.prog 69 4 := ⟨by kernel_rfl⟩
instance : TBytes Try.prog 69 32 := ⟨by kernel_rfl⟩
instance : TAgg Try.prog 69 := ⟨by kernel_rfl⟩
instance : TZero Try.prog 69 [.int .i64 0, .int .i64 0, .int .i64 0, .int .i64 0] := ⟨by kernel_rfl⟩
instance : FieldOff Try.prog 69 0 0 3 1 := ⟨by kernel_rfl⟩
instance : FieldOff Try.prog 69 1 1 3 1 := ⟨by kernel_rfl⟩
instance : FieldOff Try.prog 69 2 2 33 2 := ⟨by kernel_rfl⟩
instance : TStructOk Try.prog 69 := ⟨by kernel_rfl⟩
instance : TStruct Try.prog 69 [(0, 1), (1, 1), (2, 2)] := ⟨by kernel_rfl⟩
instance : TEq Try.prog 69 [.i .i64, .i .i64, .i .i64, .i .i64] := ⟨by kernel_rfl, by kernel_rfl⟩
instance : TSize Try.prog 70 5 := ⟨by kernel_rfl⟩
instance : TBytes Try.prog 70 48 := ⟨by kernel_rfl⟩
instance : TAgg Try.prog 70 := ⟨by kernel_rfl⟩
instance : TZero Try.prog 70 [.string ByteArray.empty, .int .i64 0, .int .i64 0, .int .i64 0, .int .i64 0] := ⟨by kernel_rfl⟩
instance : FieldOff Try.prog 70 0 0 9 1 := ⟨by kernel_rfl⟩
instance : FieldOff Try.prog 70 1 1 3 1 := ⟨by kernel_rfl⟩
instance : FieldOff Try.prog 70 2 2 3 1 := ⟨by kernel_rfl⟩
instance : FieldOff Try.prog 70 3 3 3 1 := ⟨by kernel_rfl⟩
instance : FieldOff Try.prog 70 4 4 3 1 := ⟨by kernel_rfl⟩
instance : TStructOk Try.prog 70 := ⟨by kernel_rfl⟩
instance : TStruct Try.prog 70 [(0, 1), (1, 1), (2, 1), (3, 1), (4, 1)] := ⟨by kernel_rfl⟩
instance : TEq Try.prog 70 [.s, .i .i64, .i .i64, .i .i64, .i .i64] := ⟨by kernel_rfl, by kernel_rfl⟩
instance : TSize Try.prog 71 5 := ⟨by kernel_rfl⟩
instance : TBytes Try.prog 71 48 := ⟨by kernel_rfl⟩
instance : TAgg Try.prog 71 := ⟨by kernel_rfl⟩
instance : TZero Try.prog 71 [.string ByteArray.empty, .int .i64 0, .int .i64 0, .int .i64 0, .int .i64 0] := ⟨by kernel_rfl⟩
instance : FieldOff Try.prog 71 0 0 9 1 := ⟨by kernel_rfl⟩
instance : FieldOff Try.prog 71 1 1 3 1 := ⟨by kernel_rfl⟩
instance : FieldOff Try.prog 71 2 2 3 1 := ⟨by kernel_rfl⟩
instance : FieldOff Try.prog 71 3 3 3 1 := ⟨by kernel_rfl⟩
instance : FieldOff Try.prog 71 4 4 3 1 := ⟨by kernel_rfl⟩
instance : TStructOk Try.prog 71 := ⟨by kernel_rfl⟩
instance : TStruct Try.prog 71 [(0, 1), (1, 1), (2, 1), (3, 1), (4, 1)] := ⟨by kernel_rfl⟩
instance : TEq Try.prog 71 [.s, .i .i64, .i .i64, .i .i64, .i .i64] := ⟨by kernel_rfl, by kernel_rfl⟩
instance : TSize Try.prog 72 1 := ⟨by kernel_rfl⟩
instance : TBytes Try.prog 72 8 := ⟨by kernel_rfl⟩
instance : TCell Try.prog 72 := ⟨by kernel_rfl⟩
instance : TZero Try.prog 72 [.nilFunc] := ⟨by kernel_rfl⟩
instance : TFn Try.prog 72 := ⟨by kernel_rfl⟩
instance : TSize Try.prog 73 1 := ⟨by kernel_rfl⟩
instance : TBytes Try.prog 73 24 := ⟨by kernel_rfl⟩
instance : TCell Try.prog 73 := ⟨by kernel_rfl⟩
instance : TZero Try.prog 73 [.slice none 0 0] := ⟨by kernel_rfl⟩
instance : TSl Try.prog 73 5 := ⟨by kernel_rfl⟩
instance : TSize Try.prog 74 1 := ⟨by kernel_rfl⟩
instance : TBytes Try.prog 74 8 := ⟨by kernel_rfl⟩
instance : TCell Try.prog 74 := ⟨by kernel_rfl⟩
instance : TZero Try.prog 74 [.nilFunc] := ⟨by kernel_rfl⟩
instance : TFn Try.prog 74 := ⟨by kernel_rfl⟩
instance : TSize Try.prog 75 1 := ⟨by kernel_rfl⟩
instance : TBytes Try.prog 75 8 := ⟨by kernel_rfl⟩
instance : TCell Try.prog 75 := ⟨by kernel_rfl⟩
instance : TZero Try.prog 75 [.nilFunc] := ⟨by kernel_rfl⟩
instance : TFn Try.prog 75 := ⟨by kernel_rfl⟩
instance : TSize Try.prog 76 1 := ⟨by kernel_rfl⟩
instance : TBytes Try.prog 76 8 := ⟨by kernel_rfl⟩
instance : TCell Try.prog 76 := ⟨by kernel_rfl⟩
instance : TZero Try.prog 76 [.nilFunc] := ⟨by kernel_rfl⟩
instance : TFn Try.prog 76 := ⟨by kernel_rfl⟩
instance : TSize Try.prog 77 1 := ⟨by kernel_rfl⟩
instance : TBytes Try.prog 77 8 := ⟨by kernel_rfl⟩
instance : TCell Try.prog 77 := ⟨by kernel_rfl⟩
instance : TZero Try.prog 77 [.pointer none] := ⟨by kernel_rfl⟩
instance : TPtr Try.prog 77 131 := ⟨by kernel_rfl⟩
instance : TSize Try.prog 78 1 := ⟨by kernel_rfl⟩
instance : TBytes Try.prog 78 8 := ⟨by kernel_rfl⟩
instance : TCell Try.prog 78 := ⟨by kernel_rfl⟩
instance : TZero Try.prog 78 [.pointer none] := ⟨by kernel_rfl⟩
instance : TPtr Try.prog 78 123 := ⟨by kernel_rfl⟩
instance : TSize Try.prog 79 4 := ⟨by kernel_rfl⟩
instance : TBytes Try.prog 79 32 := ⟨by kernel_rfl⟩
instance : TAgg Try.prog 79 := ⟨by kernel_rfl⟩
instance : TZero Try.prog 79 [.int .i64 0, .int .i64 0, .pointer none, .pointer none] := ⟨by kernel_rfl⟩
instance : FieldOff Try.prog 79 0 0 33 2 := ⟨by kernel_rfl⟩
instance : FieldOff Try.prog 79 1 2 77 1 := ⟨by kernel_rfl⟩
instance : FieldOff Try.prog 79 2 3 78 1 := ⟨by kernel_rfl⟩
instance : TStructOk Try.prog 79 := ⟨by kernel_rfl⟩
instance : TStruct Try.prog 79 [(0, 2), (2, 1), (3, 1)] := ⟨by kernel_rfl⟩
instance : TSize Try.prog 80 4 := ⟨by kernel_rfl⟩
instance : TBytes Try.prog 80 32 := ⟨by kernel_rfl⟩
instance : TAgg Try.prog 80 := ⟨by kernel_rfl⟩
instance : TZero Try.prog 80 [.int .i64 0, .int .i64 0, .pointer none, .pointer none] := ⟨by kernel_rfl⟩
instance : FieldOff Try.prog 80 0 0 33 2 := ⟨by kernel_rfl⟩
instance : FieldOff Try.prog 80 1 2 77 1 := ⟨by kernel_rfl⟩
instance : FieldOff Try.prog 80 2 3 78 1 := ⟨by kernel_rfl⟩
instance : TStructOk Try.prog 80 := ⟨by kernel_rfl⟩
instance : TStruct Try.prog 80 [(0, 2), (2, 1), (3, 1)] := ⟨by kernel_rfl⟩
instance : TSize Try.prog 81 1 := ⟨by kernel_rfl⟩
instance : TBytes Try.prog 81 8 := ⟨by kernel_rfl⟩
instance : TCell Try.prog 81 := ⟨by kernel_rfl⟩
instance : TZero Try.prog 81 [.nilFunc] := ⟨by kernel_rfl⟩
instance : TFn Try.prog 81 := ⟨by kernel_rfl⟩
instance : TSize Try.prog 82 11 := ⟨by kernel_rfl⟩
instance : TBytes Try.prog 82 152 := ⟨by kernel_rfl⟩
instance : TAgg Try.prog 82 := ⟨by kernel_rfl⟩
instance : TZero Try.prog 82 [.int .i64 0, .int .i64 0, .pointer none, .pointer none, .slice none 0 0, .int .i64 0, .int .i64 0, .slice none 0 0, .slice none 0 0, .slice none 0 0, .bool false] := ⟨by kernel_rfl⟩
instance : FieldOff Try.prog 82 0 0 80 4 := ⟨by kernel_rfl⟩
instance : FieldOff Try.prog 82 1 4 30 1 := ⟨by kernel_rfl⟩
instance : FieldOff Try.prog 82 2 5 40 4 := ⟨by kernel_rfl⟩
instance : FieldOff Try.prog 82 3 9 58 1 := ⟨by kernel_rfl⟩
instance : FieldOff Try.prog 82 4 10 4 1 := ⟨by kernel_rfl⟩
instance : TStructOk Try.prog 82 := ⟨by kernel_rfl⟩
instance : TStruct Try.prog 82 [(0, 4), (4, 1), (5, 4), (9, 1), (10, 1)] := ⟨by kernel_rfl⟩
instance : TSize Try.prog 83 11 := ⟨by kernel_rfl⟩
instance : TBytes Try.prog 83 152 := ⟨by kernel_rfl⟩
instance : TAgg Try.prog 83 := ⟨by kernel_rfl⟩
instance : TZero Try.prog 83 [.int .i64 0, .int .i64 0, .pointer none, .pointer none, .slice none 0 0, .int .i64 0, .int .i64 0, .slice none 0 0, .slice none 0 0, .slice none 0 0, .bool false] := ⟨by kernel_rfl⟩
instance : FieldOff Try.prog 83 0 0 80 4 := ⟨by kernel_rfl⟩
instance : FieldOff Try.prog 83 1 4 30 1 := ⟨by kernel_rfl⟩
instance : FieldOff Try.prog 83 2 5 40 4 := ⟨by kernel_rfl⟩
instance : FieldOff Try.prog 83 3 9 58 1 := ⟨by kernel_rfl⟩
instance : FieldOff Try.prog 83 4 10 4 1 := ⟨by kernel_rfl⟩
instance : TStructOk Try.prog 83 := ⟨by kernel_rfl⟩
instance : TStruct Try.prog 83 [(0, 4), (4, 1), (5, 4), (9, 1), (10, 1)] := ⟨by kernel_rfl⟩
instance : TSize Try.prog 84 1 := ⟨by kernel_rfl⟩
instance : TBytes Try.prog 84 8 := ⟨by kernel_rfl⟩
instance : TCell Try.prog 84 := ⟨by kernel_rfl⟩
instance : TZero Try.prog 84 [.nilFunc] := ⟨by kernel_rfl⟩
instance : TFn Try.prog 84 := ⟨by kernel_rfl⟩
instance : TSize Try.prog 85 1 := ⟨by kernel_rfl⟩
instance : TBytes Try.prog 85 8 := ⟨by kernel_rfl⟩
instance : TCell Try.prog 85 := ⟨by kernel_rfl⟩
instance : TZero Try.prog 85 [.nilFunc] := ⟨by kernel_rfl⟩
instance : TFn Try.prog 85 := ⟨by kernel_rfl⟩
instance : TSize Try.prog 86 1 := ⟨by kernel_rfl⟩
instance : TBytes Try.prog 86 8 := ⟨by kernel_rfl⟩
instance : TCell Try.prog 86 := ⟨by kernel_rfl⟩
instance : TZero Try.prog 86 [.nilFunc] := ⟨by kernel_rfl⟩
instance : TFn Try.prog 86 := ⟨by kernel_rfl⟩
instance : TSize Try.prog 88 1 := ⟨by kernel_rfl⟩
instance : TBytes Try.prog 88 8 := ⟨by kernel_rfl⟩
instance : TCell Try.prog 88 := ⟨by kernel_rfl⟩
instance : TZero Try.prog 88 [.nilFunc] := ⟨by kernel_rfl⟩
instance : TFn Try.prog 88 := ⟨by kernel_rfl⟩
instance : TSize Try.prog 89 1 := ⟨by kernel_rfl⟩
instance : TBytes Try.prog 89 8 := ⟨by kernel_rfl⟩
instance : TCell Try.prog 89 := ⟨by kernel_rfl⟩
instance : TZero Try.prog 89 [.nilFunc] := ⟨by kernel_rfl⟩
instance : TFn Try.prog 89 := ⟨by kernel_rfl⟩
instance : TSize Try.prog 90 1 := ⟨by kernel_rfl⟩
instance : TBytes Try.prog 90 24 := ⟨by kernel_rfl⟩
instance : TCell Try.prog 90 := ⟨by kernel_rfl⟩
instance : TZero Try.prog 90 [.slice none 0 0] := ⟨by kernel_rfl⟩
instance : TSl Try.prog 90 3 := ⟨by kernel_rfl⟩
instance : TSize Try.prog 91 1 := ⟨by kernel_rfl⟩
instance : TBytes Try.prog 91 8 := ⟨by kernel_rfl⟩
instance : TCell Try.prog 91 := ⟨by kernel_rfl⟩
instance : TZero Try.prog 91 [.nilFunc] := ⟨by kernel_rfl⟩
instance : TFn Try.prog 91 := ⟨by kernel_rfl⟩
instance : TSize Try.prog 92 1 := ⟨by kernel_rfl⟩
instance : TBytes Try.prog 92 8 := ⟨by kernel_rfl⟩
instance : TCell Try.prog 92 := ⟨by kernel_rfl⟩
instance : TZero Try.prog 92 [.nilFunc] := ⟨by kernel_rfl⟩
instance : TFn Try.prog 92 := ⟨by kernel_rfl⟩
instance : TSize Try.prog 93 1 := ⟨by kernel_rfl⟩
instance : TBytes Try.prog 93 8 := ⟨by kernel_rfl⟩
instance : TCell Try.prog 93 := ⟨by kernel_rfl⟩
instance : TZero Try.prog 93 [.nilFunc] := ⟨by kernel_rfl⟩
instance : TFn Try.prog 93 := ⟨by kernel_rfl⟩
instance : TSize Try.prog 94 1 := ⟨by kernel_rfl⟩
instance : TBytes Try.prog 94 8 := ⟨by kernel_rfl⟩
instance : TCell Try.prog 94 := ⟨by kernel_rfl⟩
instance : TZero Try.prog 94 [.pointer none] := ⟨by kernel_rfl⟩
instance : TPtr Try.prog 94 98 := ⟨by kernel_rfl⟩
instance : TSize Try.prog 95 2 := ⟨by kernel_rfl⟩
instance : TBytes Try.prog 95 32 := ⟨by kernel_rfl⟩
instance : TAgg Try.prog 95 := ⟨by kernel_rfl⟩
instance : TZero Try.prog 95 [.slice none 0 0, .bool false] := ⟨by kernel_rfl⟩
instance : FieldOff Try.prog 95 0 0 73 1 := ⟨by kernel_rfl⟩
instance : FieldOff Try.prog 95 1 1 4 1 := ⟨by kernel_rfl⟩
instance : TStructOk Try.prog 95 := ⟨by kernel_rfl⟩
instance : TStruct Try.prog 95 [(0, 1), (1, 1)] := ⟨by kernel_rfl⟩
instance : TSize Try.prog 96 2 := ⟨by kernel_rfl⟩
instance : TBytes Try.prog 96 32 := ⟨by kernel_rfl⟩
instance : TAgg Try.prog 96 := ⟨by kernel_rfl⟩
instance : TZero Try.prog 96 [.slice none 0 0, .bool false] := ⟨by kernel_rfl⟩
instance : FieldOff Try.prog 96 0 0 73 1 := ⟨by kernel_rfl⟩
instance : FieldOff Try.prog 96 1 1 4 1 := ⟨by kernel_rfl⟩
instance : TStructOk Try.prog 96 := ⟨by kernel_rfl⟩
instance : TStruct Try.prog 96 [(0, 1), (1, 1)] := ⟨by kernel_rfl⟩
instance : TSize Try.prog 97 2 := ⟨by kernel_rfl⟩
instance : TBytes Try.prog 97 32 := ⟨by kernel_rfl⟩
instance : TAgg Try.prog 97 := ⟨by kernel_rfl⟩
instance : TZero Try.prog 97 [.slice none 0 0, .bool false] := ⟨by kernel_rfl⟩
instance : FieldOff Try.prog 97 0 0 96 2 := ⟨by kernel_rfl⟩
instance : TStructOk Try.prog 97 := ⟨by kernel_rfl⟩
instance : TStruct Try.prog 97 [(0, 2)] := ⟨by kernel_rfl⟩
instance : TSize Try.prog 98 2 := ⟨by kernel_rfl⟩
instance : TBytes Try.prog 98 32 := ⟨by kernel_rfl⟩
instance : TAgg Try.prog 98 := ⟨by kernel_rfl⟩
instance : TZero Try.prog 98 [.slice none 0 0, .bool false] := ⟨by kernel_rfl⟩
instance : FieldOff Try.prog 98 0 0 96 2 := ⟨by kernel_rfl⟩
instance : TStructOk Try.prog 98 := ⟨by kernel_rfl⟩
instance : TStruct Try.prog 98 [(0, 2)] := ⟨by kernel_rfl⟩
instance : TSize Try.prog 99 1 := ⟨by kernel_rfl⟩
instance : TBytes Try.prog 99 8 := ⟨by kernel_rfl⟩
instance : TCell Try.prog 99 := ⟨by kernel_rfl⟩
instance : TZero Try.prog 99 [.nilFunc] := ⟨by kernel_rfl⟩
instance : TFn Try.prog 99 := ⟨by kernel_rfl⟩
instance : TSize Try.prog 100 1 := ⟨by kernel_rfl⟩
instance : TBytes Try.prog 100 8 := ⟨by kernel_rfl⟩
instance : TCell Try.prog 100 := ⟨by kernel_rfl⟩
instance : TZero Try.prog 100 [.nilFunc] := ⟨by kernel_rfl⟩
instance : TFn Try.prog 100 := ⟨by kernel_rfl⟩
instance : TSize Try.prog 101 1 := ⟨by kernel_rfl⟩
instance : TBytes Try.prog 101 8 := ⟨by kernel_rfl⟩
instance : TCell Try.prog 101 := ⟨by kernel_rfl⟩
instance : TZero Try.prog 101 [.nilFunc] := ⟨by kernel_rfl⟩
instance : TFn Try.prog 101 := ⟨by kernel_rfl⟩
instance : TSize Try.prog 102 1 := ⟨by kernel_rfl⟩
instance : TBytes Try.prog 102 8 := ⟨by kernel_rfl⟩
instance : TCell Try.prog 102 := ⟨by kernel_rfl⟩
instance : TZero Try.prog 102 [.nilFunc] := ⟨by kernel_rfl⟩
instance : TFn Try.prog 102 := ⟨by kernel_rfl⟩
instance : TSize Try.prog 103 1 := ⟨by kernel_rfl⟩
instance : TBytes Try.prog 103 8 := ⟨by kernel_rfl⟩
instance : TCell Try.prog 103 := ⟨by kernel_rfl⟩
instance : TZero Try.prog 103 [.nilFunc] := ⟨by kernel_rfl⟩
instance : TFn Try.prog 103 := ⟨by kernel_rfl⟩
instance : TSize Try.prog 105 1 := ⟨by kernel_rfl⟩
instance : TBytes Try.prog 105 8 := ⟨by kernel_rfl⟩
instance : TCell Try.prog 105 := ⟨by kernel_rfl⟩
instance : TZero Try.prog 105 [.nilFunc] := ⟨by kernel_rfl⟩
instance : TFn Try.prog 105 := ⟨by kernel_rfl⟩
instance : TSize Try.prog 106 1 := ⟨by kernel_rfl⟩
instance : TBytes Try.prog 106 8 := ⟨by kernel_rfl⟩
instance : TCell Try.prog 106 := ⟨by kernel_rfl⟩
instance : TZero Try.prog 106 [.nilFunc] := ⟨by kernel_rfl⟩
instance : TFn Try.prog 106 := ⟨by kernel_rfl⟩
instance : TSize Try.prog 107 1 := ⟨by kernel_rfl⟩
instance : TBytes Try.prog 107 8 := ⟨by kernel_rfl⟩
instance : TCell Try.prog 107 := ⟨by kernel_rfl⟩
instance : TZero Try.prog 107 [.nilFunc] := ⟨by kernel_rfl⟩
instance : TFn Try.prog 107 := ⟨by kernel_rfl⟩
instance : TSize Try.prog 108 1 := ⟨by kernel_rfl⟩
instance : TBytes Try.prog 108 8 := ⟨by kernel_rfl⟩
instance : TCell Try.prog 108 := ⟨by kernel_rfl⟩
instance : TZero Try.prog 108 [.pointer none] := ⟨by kernel_rfl⟩
instance : TPtr Try.prog 108 80 := ⟨by kernel_rfl⟩
instance : TSize Try.prog 109 1 := ⟨by kernel_rfl⟩
instance : TBytes Try.prog 109 8 := ⟨by kernel_rfl⟩
instance : TCell Try.prog 109 := ⟨by kernel_rfl⟩
instance : TZero Try.prog 109 [.nilFunc] := ⟨by kernel_rfl⟩
instance : TFn Try.prog 109 := ⟨by kernel_rfl⟩
instance : TSize Try.prog 110 1 := ⟨by kernel_rfl⟩
instance : TBytes Try.prog 110 8 := ⟨by kernel_rfl⟩
instance : TCell Try.prog 110 := ⟨by kernel_rfl⟩
instance : TZero Try.prog 110 [.nilFunc] := ⟨by kernel_rfl⟩
instance : TFn Try.prog 110 := ⟨by kernel_rfl⟩
instance : TSize Try.prog 111 1 := ⟨by kernel_rfl⟩
instance : TBytes Try.prog 111 8 := ⟨by kernel_rfl⟩
instance : TCell Try.prog 111 := ⟨by kernel_rfl⟩
instance : TZero Try.prog 111 [.nilFunc] := ⟨by kernel_rfl⟩
instance : TFn Try.prog 111 := ⟨by kernel_rfl⟩
instance : TSize Try.prog 112 1 := ⟨by kernel_rfl⟩
instance : TBytes Try.prog 112 8 := ⟨by kernel_rfl⟩
instance : TCell Try.prog 112 := ⟨by kernel_rfl⟩
instance : TZero Try.prog 112 [.nilFunc] := ⟨by kernel_rfl⟩
instance : TFn Try.prog 112 := ⟨by kernel_rfl⟩
instance : TSize Try.prog 113 1 := ⟨by kernel_rfl⟩
instance : TBytes Try.prog 113 8 := ⟨by kernel_rfl⟩
instance : TCell Try.prog 113 := ⟨by kernel_rfl⟩
instance : TZero Try.prog 113 [.nilFunc] := ⟨by kernel_rfl⟩
instance : TFn Try.prog 113 := ⟨by kernel_rfl⟩
instance : TSize Try.prog 114 1 := ⟨by kernel_rfl⟩
instance : TBytes Try.prog 114 8 := ⟨by kernel_rfl⟩
instance : TCell Try.prog 114 := ⟨by kernel_rfl⟩
instance : TZero Try.prog 114 [.nilFunc] := ⟨by kernel_rfl⟩
instance : TFn Try.prog 114 := ⟨by kernel_rfl⟩
instance : TSize Try.prog 115 1 := ⟨by kernel_rfl⟩
instance : TBytes Try.prog 115 8 := ⟨by kernel_rfl⟩
instance : TCell Try.prog 115 := ⟨by kernel_rfl⟩
instance : TZero Try.prog 115 [.nilFunc] := ⟨by kernel_rfl⟩
instance : TFn Try.prog 115 := ⟨by kernel_rfl⟩
instance : TSize Try.prog 117 1 := ⟨by kernel_rfl⟩
instance : TBytes Try.prog 117 8 := ⟨by kernel_rfl⟩
instance : TCell Try.prog 117 := ⟨by kernel_rfl⟩
instance : TZero Try.prog 117 [.nilFunc] := ⟨by kernel_rfl⟩
instance : TFn Try.prog 117 := ⟨by kernel_rfl⟩
instance : TSize Try.prog 118 3 := ⟨by kernel_rfl⟩
instance : TBytes Try.prog 118 24 := ⟨by kernel_rfl⟩
instance : TAgg Try.prog 118 := ⟨by kernel_rfl⟩
instance : TZero Try.prog 118 [.int .i64 0, .int .i64 0, .int .i64 0] := ⟨by kernel_rfl⟩
instance : FieldOff Try.prog 118 0 0 3 1 := ⟨by kernel_rfl⟩
instance : FieldOff Try.prog 118 1 1 33 2 := ⟨by kernel_rfl⟩
instance : TStructOk Try.prog 118 := ⟨by kernel_rfl⟩
instance : TStruct Try.prog 118 [(0, 1), (1, 2)] := ⟨by kernel_rfl⟩
instance : TEq Try.prog 118 [.i .i64, .i .i64, .i .i64] := ⟨by kernel_rfl, by kernel_rfl⟩
instance : TSize Try.prog 119 3 := ⟨by kernel_rfl⟩
instance : TBytes Try.prog 119 24 := ⟨by kernel_rfl⟩
instance : TAgg Try.prog 119 := ⟨by kernel_rfl⟩
instance : TZero Try.prog 119 [.int .i64 0, .int .i64 0, .int .i64 0] := ⟨by kernel_rfl⟩
instance : FieldOff Try.prog 119 0 0 3 1 := ⟨by kernel_rfl⟩
instance : FieldOff Try.prog 119 1 1 33 2 := ⟨by kernel_rfl⟩
instance : TStructOk Try.prog 119 := ⟨by kernel_rfl⟩
instance : TStruct Try.prog 119 [(0, 1), (1, 2)] := ⟨by kernel_rfl⟩
instance : TEq Try.prog 119 [.i .i64, .i .i64, .i .i64] := ⟨by kernel_rfl, by kernel_rfl⟩
instance : TSize Try.prog 121 1 := ⟨by kernel_rfl⟩
instance : TBytes Try.prog 121 8 := ⟨by kernel_rfl⟩
instance : TCell Try.prog 121 := ⟨by kernel_rfl⟩
instance : TZero Try.prog 121 [.map none] := ⟨by kernel_rfl⟩
instance : TMap Try.prog 121 3 119 := ⟨by kernel_rfl⟩
instance : TSize Try.prog 122 2 := ⟨by kernel_rfl⟩
instance : TBytes Try.prog 122 16 := ⟨by kernel_rfl⟩
instance : TAgg Try.prog 122 := ⟨by kernel_rfl⟩
instance : TZero Try.prog 122 [.int .i64 0, .map none] := ⟨by kernel_rfl⟩
instance : FieldOff Try.prog 122 0 0 3 1 := ⟨by kernel_rfl⟩
instance : FieldOff Try.prog 122 1 1 121 1 := ⟨by kernel_rfl⟩
instance : TStructOk Try.prog 122 := ⟨by kernel_rfl⟩
instance : TStruct Try.prog 122 [(0, 1), (1, 1)] := ⟨by kernel_rfl⟩
instance : TSize Try.prog 123 2 := ⟨by kernel_rfl⟩
instance : TBytes Try.prog 123 16 := ⟨by kernel_rfl⟩
instance : TAgg Try.prog 123 := ⟨by kernel_rfl⟩
instance : TZero Try.prog 123 [.int .i64 0, .map none] := ⟨by kernel_rfl⟩
instance : FieldOff Try.prog 123 0 0 3 1 := ⟨by kernel_rfl⟩
instance : FieldOff Try.prog 123 1 1 121 1 := ⟨by kernel_rfl⟩
instance : TStructOk Try.prog 123 := ⟨by kernel_rfl⟩
instance : TStruct Try.prog 123 [(0, 1), (1, 1)] := ⟨by kernel_rfl⟩
instance : TSize Try.prog 124 1 := ⟨by kernel_rfl⟩
instance : TBytes Try.prog 124 8 := ⟨by kernel_rfl⟩
instance : TCell Try.prog 124 := ⟨by kernel_rfl⟩
instance : TZero Try.prog 124 [.nilFunc] := ⟨by kernel_rfl⟩
instance : TFn Try.prog 124 := ⟨by kernel_rfl⟩
instance : TSize Try.prog 125 1 := ⟨by kernel_rfl⟩
instance : TBytes Try.prog 125 8 := ⟨by kernel_rfl⟩
instance : TCell Try.prog 125 := ⟨by kernel_rfl⟩
instance : TZero Try.prog 125 [.nilFunc] := ⟨by kernel_rfl⟩
instance : TFn Try.prog 125 := ⟨by kernel_rfl⟩
instance : TSize Try.prog 126 1 := ⟨by kernel_rfl⟩
instance : TBytes Try.prog 126 8 := ⟨by kernel_rfl⟩
instance : TCell Try.prog 126 := ⟨by kernel_rfl⟩
instance : TZero Try.prog 126 [.nilFunc] := ⟨by kernel_rfl⟩
instance : TFn Try.prog 126 := ⟨by kernel_rfl⟩
instance : TSize Try.prog 127 1 := ⟨by kernel_rfl⟩
instance : TBytes Try.prog 127 8 := ⟨by kernel_rfl⟩
instance : TCell Try.prog 127 := ⟨by kernel_rfl⟩
instance : TZero Try.prog 127 [.nilFunc] := ⟨by kernel_rfl⟩
instance : TFn Try.prog 127 := ⟨by kernel_rfl⟩
instance : TSize Try.prog 128 1 := ⟨by kernel_rfl⟩
instance : TBytes Try.prog 128 8 := ⟨by kernel_rfl⟩
instance : TCell Try.prog 128 := ⟨by kernel_rfl⟩
instance : TZero Try.prog 128 [.nilFunc] := ⟨by kernel_rfl⟩
instance : TFn Try.prog 128 := ⟨by kernel_rfl⟩
instance : TSize Try.prog 129 1 := ⟨by kernel_rfl⟩
instance : TBytes Try.prog 129 8 := ⟨by kernel_rfl⟩
instance : TCell Try.prog 129 := ⟨by kernel_rfl⟩
instance : TZero Try.prog 129 [.pointer none] := ⟨by kernel_rfl⟩
instance : TPtr Try.prog 129 139 := ⟨by kernel_rfl⟩
instance : TSize Try.prog 130 2 := ⟨by kernel_rfl⟩
instance : TBytes Try.prog 130 16 := ⟨by kernel_rfl⟩
instance : TAgg Try.prog 130 := ⟨by kernel_rfl⟩
instance : TZero Try.prog 130 [.pointer none, .int .i64 0] := ⟨by kernel_rfl⟩
instance : FieldOff Try.prog 130 0 0 129 1 := ⟨by kernel_rfl⟩
instance : FieldOff Try.prog 130 1 1 3 1 := ⟨by kernel_rfl⟩
instance : TStructOk Try.prog 130 := ⟨by kernel_rfl⟩
instance : TStruct Try.prog 130 [(0, 1), (1, 1)] := ⟨by kernel_rfl⟩
instance : TSize Try.prog 131 2 := ⟨by kernel_rfl⟩
instance : TBytes Try.prog 131 16 := ⟨by kernel_rfl⟩
instance : TAgg Try.prog 131 := ⟨by kernel_rfl⟩
instance : TZero Try.prog 131 [.pointer none, .int .i64 0] := ⟨by kernel_rfl⟩
instance : FieldOff Try.prog 131 0 0 129 1 := ⟨by kernel_rfl⟩
instance : FieldOff Try.prog 131 1 1 3 1 := ⟨by kernel_rfl⟩
instance : TStructOk Try.prog 131 := ⟨by kernel_rfl⟩
instance : TStruct Try.prog 131 [(0, 1), (1, 1)] := ⟨by kernel_rfl⟩
instance : TSize Try.prog 132 1 := ⟨by kernel_rfl⟩
instance : TBytes Try.prog 132 8 := ⟨by kernel_rfl⟩
instance : TCell Try.prog 132 := ⟨by kernel_rfl⟩
instance : TZero Try.prog 132 [.nilFunc] := ⟨by kernel_rfl⟩
instance : TFn Try.prog 132 := ⟨by kernel_rfl⟩
instance : TSize Try.prog 133 1 := ⟨by kernel_rfl⟩
instance : TBytes Try.prog 133 8 := ⟨by kernel_rfl⟩
instance : TCell Try.prog 133 := ⟨by kernel_rfl⟩
instance : TZero Try.prog 133 [.nilFunc] := ⟨by kernel_rfl⟩
instance : TFn Try.prog 133 := ⟨by kernel_rfl⟩
instance : TSize Try.prog 134 1 := ⟨by kernel_rfl⟩
instance : TBytes Try.prog 134 8 := ⟨by kernel_rfl⟩
instance : TCell Try.prog 134 := ⟨by kernel_rfl⟩
instance : TZero Try.prog 134 [.nilFunc] := ⟨by kernel_rfl⟩
instance : TFn Try.prog 134 := ⟨by kernel_rfl⟩
instance : TSize Try.prog 135 1 := ⟨by kernel_rfl⟩
instance : TBytes Try.prog 135 8 := ⟨by kernel_rfl⟩
instance : TCell Try.prog 135 := ⟨by kernel_rfl⟩
instance : TZero Try.prog 135 [.nilFunc] := ⟨by kernel_rfl⟩
instance : TFn Try.prog 135 := ⟨by kernel_rfl⟩
instance : TSize Try.prog 136 1 := ⟨by kernel_rfl⟩
instance : TBytes Try.prog 136 8 := ⟨by kernel_rfl⟩
instance : TCell Try.prog 136 := ⟨by kernel_rfl⟩
instance : TZero Try.prog 136 [.nilFunc] := ⟨by kernel_rfl⟩
instance : TFn Try.prog 136 := ⟨by kernel_rfl⟩
instance : TSize Try.prog 137 1 := ⟨by kernel_rfl⟩
instance : TBytes Try.prog 137 8 := ⟨by kernel_rfl⟩
instance : TCell Try.prog 137 := ⟨by kernel_rfl⟩
instance : TZero Try.prog 137 [.nilFunc] := ⟨by kernel_rfl⟩
instance : TFn Try.prog 137 := ⟨by kernel_rfl⟩
instance : TSize Try.prog 138 8 := ⟨by kernel_rfl⟩
instance : TBytes Try.prog 138 80 := ⟨by kernel_rfl⟩
instance : TAgg Try.prog 138 := ⟨by kernel_rfl⟩
instance : TZero Try.prog 138 [.string ByteArray.empty, .int .i64 0, .int .i64 0, .bool false, .string ByteArray.empty, .int .i64 0, .pointer none, .pointer none] := ⟨by kernel_rfl⟩
instance : FieldOff Try.prog 138 0 0 9 1 := ⟨by kernel_rfl⟩
instance : FieldOff Try.prog 138 1 1 46 4 := ⟨by kernel_rfl⟩
instance : FieldOff Try.prog 138 2 5 3 1 := ⟨by kernel_rfl⟩
instance : FieldOff Try.prog 138 3 6 129 1 := ⟨by kernel_rfl⟩
instance : FieldOff Try.prog 138 4 7 129 1 := ⟨by kernel_rfl⟩
instance : TStructOk Try.prog 138 := ⟨by kernel_rfl⟩
instance : TStruct Try.prog 138 [(0, 1), (1, 4), (5, 1), (6, 1), (7, 1)] := ⟨by kernel_rfl⟩
instance : TSize Try.prog 139 8 := ⟨by kernel_rfl⟩
instance : TBytes Try.prog 139 80 := ⟨by kernel_rfl⟩
instance : TAgg Try.prog 139 := ⟨by kernel_rfl⟩
instance : TZero Try.prog 139 [.string ByteArray.empty, .int .i64 0, .int .i64 0, .bool false, .string ByteArray.empty, .int .i64 0, .pointer none, .pointer none] := ⟨by kernel_rfl⟩
instance : FieldOff Try.prog 139 0 0 9 1 := ⟨by kernel_rfl⟩
instance : FieldOff Try.prog 139 1 1 46 4 := ⟨by kernel_rfl⟩
instance : FieldOff Try.prog 139 2 5 3 1 := ⟨by kernel_rfl⟩
instance : FieldOff Try.prog 139 3 6 129 1 := ⟨by kernel_rfl⟩
instance : FieldOff Try.prog 139 4 7 129 1 := ⟨by kernel_rfl⟩
instance : TStructOk Try.prog 139 := ⟨by kernel_rfl⟩
instance : TStruct Try.prog 139 [(0, 1), (1, 4), (5, 1), (6, 1), (7, 1)] := ⟨by kernel_rfl⟩
instance : TSize Try.prog 141 1 := ⟨by kernel_rfl⟩
instance : TBytes Try.prog 141 8 := ⟨by kernel_rfl⟩
instance : TCell Try.prog 141 := ⟨by kernel_rfl⟩
instance : TZero Try.prog 141 [.nilFunc] := ⟨by kernel_rfl⟩
instance : TFn Try.prog 141 := ⟨by kernel_rfl⟩
instance : TSize Try.prog 142 1 := ⟨by kernel_rfl⟩
instance : TBytes Try.prog 142 8 := ⟨by kernel_rfl⟩
instance : TCell Try.prog 142 := ⟨by kernel_rfl⟩
instance : TZero Try.prog 142 [.nilFunc] := ⟨by kernel_rfl⟩
instance : TFn Try.prog 142 := ⟨by kernel_rfl⟩
instance : TSize Try.prog 143 1 := ⟨by kernel_rfl⟩
instance : TBytes Try.prog 143 8 := ⟨by kernel_rfl⟩
instance : TCell Try.prog 143 := ⟨by kernel_rfl⟩
instance : TZero Try.prog 143 [.pointer none] := ⟨by kernel_rfl⟩
instance : TPtr Try.prog 143 96 := ⟨by kernel_rfl⟩
instance : TSize Try.prog 144 1 := ⟨by kernel_rfl⟩
instance : TBytes Try.prog 144 8 := ⟨by kernel_rfl⟩
instance : TCell Try.prog 144 := ⟨by kernel_rfl⟩
instance : TZero Try.prog 144 [.nilFunc] := ⟨by kernel_rfl⟩
instance : TFn Try.prog 144 := ⟨by kernel_rfl⟩
instance : TSize Try.prog 145 1 := ⟨by kernel_rfl⟩
instance : TBytes Try.prog 145 8 := ⟨by kernel_rfl⟩
instance : TCell Try.prog 145 := ⟨by kernel_rfl⟩
instance : TZero Try.prog 145 [.nilFunc] := ⟨by kernel_rfl⟩
instance : TFn Try.prog 145 := ⟨by kernel_rfl⟩
instance : TSize Try.prog 146 1 := ⟨by kernel_rfl⟩
instance : TBytes Try.prog 146 8 := ⟨by kernel_rfl⟩
instance : TCell Try.prog 146 := ⟨by kernel_rfl⟩
instance : TZero Try.prog 146 [.nilFunc] := ⟨by kernel_rfl⟩
instance : TFn Try.prog 146 := ⟨by kernel_rfl⟩
instance : TSize Try.prog 147 1 := ⟨by kernel_rfl⟩
instance : TBytes Try.prog 147 8 := ⟨by kernel_rfl⟩
instance : TCell Try.prog 147 := ⟨by kernel_rfl⟩
instance : TZero Try.prog 147 [.int .u64 0] := ⟨by kernel_rfl⟩
instance : TInt Try.prog 147 .u64 := ⟨by kernel_rfl⟩
instance : TSize Try.prog 148 1 := ⟨by kernel_rfl⟩
instance : TBytes Try.prog 148 8 := ⟨by kernel_rfl⟩
instance : TCell Try.prog 148 := ⟨by kernel_rfl⟩
instance : TZero Try.prog 148 [.nilFunc] := ⟨by kernel_rfl⟩
instance : TFn Try.prog 148 := ⟨by kernel_rfl⟩
instance : TSize Try.prog 149 1 := ⟨by kernel_rfl⟩
instance : TBytes Try.prog 149 8 := ⟨by kernel_rfl⟩
instance : TCell Try.prog 149 := ⟨by kernel_rfl⟩
instance : TZero Try.prog 149 [.nilFunc] := ⟨by kernel_rfl⟩
instance : TFn Try.prog 149 := ⟨by kernel_rfl⟩
instance : TSize Try.prog 150 1 := ⟨by kernel_rfl⟩
instance : TBytes Try.prog 150 8 := ⟨by kernel_rfl⟩
instance : TCell Try.prog 150 := ⟨by kernel_rfl⟩
instance : TZero Try.prog 150 [.int .i64 0] := ⟨by kernel_rfl⟩
instance : TInt Try.prog 150 .i64 := ⟨by kernel_rfl⟩
instance : TSize Try.prog 152 1 := ⟨by kernel_rfl⟩
instance : TBytes Try.prog 152 8 := ⟨by kernel_rfl⟩
instance : TCell Try.prog 152 := ⟨by kernel_rfl⟩
instance : TZero Try.prog 152 [.nilFunc] := ⟨by kernel_rfl⟩
instance : TFn Try.prog 152 := ⟨by kernel_rfl⟩
instance : TSize Try.prog 153 1 := ⟨by kernel_rfl⟩
instance : TBytes Try.prog 153 8 := ⟨by kernel_rfl⟩
instance : TCell Try.prog 153 := ⟨by kernel_rfl⟩
instance : TZero Try.prog 153 [.nilFunc] := ⟨by kernel_rfl⟩
instance : TFn Try.prog 153 := ⟨by kernel_rfl⟩
instance : TSize Try.prog 154 1 := ⟨by kernel_rfl⟩
instance : TBytes Try.prog 154 8 := ⟨by kernel_rfl⟩
instance : TCell Try.prog 154 := ⟨by kernel_rfl⟩
instance : TZero Try.prog 154 [.nilFunc] := ⟨by kernel_rfl⟩
instance : TFn Try.prog 154 := ⟨by kernel_rfl⟩
instance : TSize Try.prog 155 1 := ⟨by kernel_rfl⟩
instance : TBytes Try.prog 155 8 := ⟨by kernel_rfl⟩
instance : TCell Try.prog 155 := ⟨by kernel_rfl⟩
instance : TZero Try.prog 155 [.nilFunc] := ⟨by kernel_rfl⟩
instance : TFn Try.prog 155 := ⟨by kernel_rfl⟩
instance : TSize Try.prog 156 1 := ⟨by kernel_rfl⟩
instance : TBytes Try.prog 156 8 := ⟨by kernel_rfl⟩
instance : TCell Try.prog 156 := ⟨by kernel_rfl⟩
instance : TZero Try.prog 156 [.nilFunc] := ⟨by kernel_rfl⟩
instance : TFn Try.prog 156 := ⟨by kernel_rfl⟩
instance : TSize Try.prog 157 1 := ⟨by kernel_rfl⟩
instance : TBytes Try.prog 157 4 := ⟨by kernel_rfl⟩
instance : TCell Try.prog 157 := ⟨by kernel_rfl⟩
instance : TZero Try.prog 157 [.int .u32 0] := ⟨by kernel_rfl⟩
instance : TInt Try.prog 157 .u32 := ⟨by kernel_rfl⟩
instance : TSize Try.prog 158 1 := ⟨by kernel_rfl⟩
instance : TBytes Try.prog 158 8 := ⟨by kernel_rfl⟩
instance : TCell Try.prog 158 := ⟨by kernel_rfl⟩
instance : TZero Try.prog 158 [.nilFunc] := ⟨by kernel_rfl⟩
instance : TFn Try.prog 158 := ⟨by kernel_rfl⟩
instance : TSize Try.prog 159 1 := ⟨by kernel_rfl⟩
instance : TBytes Try.prog 159 8 := ⟨by kernel_rfl⟩
instance : TCell Try.prog 159 := ⟨by kernel_rfl⟩
instance : TZero Try.prog 159 [.int .u64 0] := ⟨by kernel_rfl⟩
instance : TInt Try.prog 159 .u64 := ⟨by kernel_rfl⟩
instance : TSize Try.prog 160 1 := ⟨by kernel_rfl⟩
instance : TBytes Try.prog 160 8 := ⟨by kernel_rfl⟩
instance : TCell Try.prog 160 := ⟨by kernel_rfl⟩
instance : TZero Try.prog 160 [.int .u64 0] := ⟨by kernel_rfl⟩
instance : TInt Try.prog 160 .u64 := ⟨by kernel_rfl⟩
instance : TSize Try.prog 161 1 := ⟨by kernel_rfl⟩
instance : TBytes Try.prog 161 8 := ⟨by kernel_rfl⟩
instance : TCell Try.prog 161 := ⟨by kernel_rfl⟩
instance : TZero Try.prog 161 [.nilFunc] := ⟨by kernel_rfl⟩
instance : TFn Try.prog 161 := ⟨by kernel_rfl⟩
instance : TSize Try.prog 162 1 := ⟨by kernel_rfl⟩
instance : TBytes Try.prog 162 8 := ⟨by kernel_rfl⟩
instance : TCell Try.prog 162 := ⟨by kernel_rfl⟩
instance : TZero Try.prog 162 [.nilFunc] := ⟨by kernel_rfl⟩
instance : TFn Try.prog 162 := ⟨by kernel_rfl⟩
instance : TSize Try.prog 163 1 := ⟨by kernel_rfl⟩
instance : TBytes Try.prog 163 8 := ⟨by kernel_rfl⟩
instance : TCell Try.prog 163 := ⟨by kernel_rfl⟩
instance : TZero Try.prog 163 [.nilFunc] := ⟨by kernel_rfl⟩
instance : TFn Try.prog 163 := ⟨by kernel_rfl⟩
instance : TSize Try.prog 164 1 := ⟨by kernel_rfl⟩
instance : TBytes Try.prog 164 8 := ⟨by kernel_rfl⟩
instance : TCell Try.prog 164 := ⟨by kernel_rfl⟩
instance : TZero Try.prog 164 [.pointer none] := ⟨by kernel_rfl⟩
instance : TPtr Try.prog 164 3 := ⟨by kernel_rfl⟩
instance : TSize Try.prog 165 1 := ⟨by kernel_rfl⟩
instance : TBytes Try.prog 165 8 := ⟨by kernel_rfl⟩
instance : TCell Try.prog 165 := ⟨by kernel_rfl⟩
instance : TZero Try.prog 165 [.nilFunc] := ⟨by kernel_rfl⟩
instance : TFn Try.prog 165 := ⟨by kernel_rfl⟩
instance : TSize Try.prog 166 1 := ⟨by kernel_rfl⟩
instance : TBytes Try.prog 166 8 := ⟨by kernel_rfl⟩
instance : TCell Try.prog 166 := ⟨by kernel_rfl⟩
instance : TZero Try.prog 166 [.pointer none] := ⟨by kernel_rfl⟩
instance : TPtr Try.prog 166 160 := ⟨by kernel_rfl⟩
instance : TSize Try.prog 168 1 := ⟨by kernel_rfl⟩
instance : TBytes Try.prog 168 8 := ⟨by kernel_rfl⟩
instance : TCell Try.prog 168 := ⟨by kernel_rfl⟩
instance : TZero Try.prog 168 [.nilFunc] := ⟨by kernel_rfl⟩
instance : TFn Try.prog 168 := ⟨by kernel_rfl⟩
instance : TSize Try.prog 169 1 := ⟨by kernel_rfl⟩
instance : TBytes Try.prog 169 8 := ⟨by kernel_rfl⟩
instance : TCell Try.prog 169 := ⟨by kernel_rfl⟩
instance : TZero Try.prog 169 [.nilFunc] := ⟨by kernel_rfl⟩
instance : TFn Try.prog 169 := ⟨by kernel_rfl⟩
instance : TSize Try.prog 170 4 := ⟨by kernel_rfl⟩
instance : TBytes Try.prog 170 40 := ⟨by kernel_rfl⟩
instance : TAgg Try.prog 170 := ⟨by kernel_rfl⟩
instance : TZero Try.prog 170 [.pointer none, .pointer none, .pointer none, .string ByteArray.empty] := ⟨by kernel_rfl⟩
instance : FieldOff Try.prog 170 0 0 17 1 := ⟨by kernel_rfl⟩
instance : FieldOff Try.prog 170 1 1 17 1 := ⟨by kernel_rfl⟩
instance : FieldOff Try.prog 170 2 2 17 1 := ⟨by kernel_rfl⟩
instance : FieldOff Try.prog 170 3 3 9 1 := ⟨by kernel_rfl⟩
instance : TStructOk Try.prog 170 := ⟨by kernel_rfl⟩
instance : TStruct Try.prog 170 [(0, 1), (1, 1), (2, 1), (3, 1)] := ⟨by kernel_rfl⟩
instance : TSize Try.prog 171 4 := ⟨by kernel_rfl⟩
instance : TBytes Try.prog 171 40 := ⟨by kernel_rfl⟩
instance : TAgg Try.prog 171 := ⟨by kernel_rfl⟩
instance : TZero Try.prog 171 [.pointer none, .pointer none, .pointer none, .string ByteArray.empty] := ⟨by kernel_rfl⟩
instance : FieldOff Try.prog 171 0 0 17 1 := ⟨by kernel_rfl⟩
instance : FieldOff Try.prog 171 1 1 17 1 := ⟨by kernel_rfl⟩
instance : FieldOff Try.prog 171 2 2 17 1 := ⟨by kernel_rfl⟩
instance : FieldOff Try.prog 171 3 3 9 1 := ⟨by kernel_rfl⟩
instance : TStructOk Try.prog 171 := ⟨by kernel_rfl⟩
instance : TStruct Try.prog 171 [(0, 1), (1, 1), (2, 1), (3, 1)] := ⟨by kernel_rfl⟩
instance : TSize Try.prog 172 0 := ⟨by kernel_rfl⟩
instance : TBytes Try.prog 172 0 := ⟨by kernel_rfl⟩
instance : TAgg Try.prog 172 := ⟨by kernel_rfl⟩
instance : TZero Try.prog 172 [] := ⟨by kernel_rfl⟩
instance : TArr Try.prog 172 0 16 := ⟨by kernel_rfl⟩
instance : TSize Try.prog 173 0 := ⟨by kernel_rfl⟩
instance : TBytes Try.prog 173 0 := ⟨by kernel_rfl⟩
instance : TAgg Try.prog 173 := ⟨by kernel_rfl⟩
instance : TZero Try.prog 173 [] := ⟨by kernel_rfl⟩
instance : FieldOff Try.prog 173 0 0 172 0 := ⟨by kernel_rfl⟩
instance : TStructOk Try.prog 173 := ⟨by kernel_rfl⟩
instance : TStruct Try.prog 173 [(0, 0)] := ⟨by kernel_rfl⟩
instance : TSize Try.prog 174 0 := ⟨by kernel_rfl⟩
instance : TBytes Try.prog 174 0 := ⟨by kernel_rfl⟩
instance : TAgg Try.prog 174 := ⟨by kernel_rfl⟩
instance : TZero Try.prog 174 [] := ⟨by kernel_rfl⟩
instance : FieldOff Try.prog 174 0 0 172 0 := ⟨by kernel_rfl⟩
instance : TStructOk Try.prog 174 := ⟨by kernel_rfl⟩
instance : TStruct Try.prog 174 [(0, 0)] := ⟨by kernel_rfl⟩
instance : TSize Try.prog 175 1 := ⟨by kernel_rfl⟩
instance : TBytes Try.prog 175 1 := ⟨by kernel_rfl⟩
instance : TCell Try.prog 175 := ⟨by kernel_rfl⟩
instance : TZero Try.prog 175 [.int .u8 0] := ⟨by kernel_rfl⟩
instance : TInt Try.prog 175 .u8 := ⟨by kernel_rfl⟩
instance : TSize Try.prog 176 1 := ⟨by kernel_rfl⟩
instance : TBytes Try.prog 176 1 := ⟨by kernel_rfl⟩
instance : TCell Try.prog 176 := ⟨by kernel_rfl⟩
instance : TZero Try.prog 176 [.int .u8 0] := ⟨by kernel_rfl⟩
instance : TInt Try.prog 176 .u8 := ⟨by kernel_rfl⟩
instance : TSize Try.prog 177 1 := ⟨by kernel_rfl⟩
instance : TBytes Try.prog 177 8 := ⟨by kernel_rfl⟩
instance : TCell Try.prog 177 := ⟨by kernel_rfl⟩
instance : TZero Try.prog 177 [.nilFunc] := ⟨by kernel_rfl⟩
instance : TFn Try.prog 177 := ⟨by kernel_rfl⟩
instance : TSize Try.prog 178 1 := ⟨by kernel_rfl⟩
instance : TBytes Try.prog 178 8 := ⟨by kernel_rfl⟩
instance : TCell Try.prog 178 := ⟨by kernel_rfl⟩
instance : TZero Try.prog 178 [.pointer none] := ⟨by kernel_rfl⟩
instance : TPtr Try.prog 178 5 := ⟨by kernel_rfl⟩
instance : TSize Try.prog 179 1 := ⟨by kernel_rfl⟩
instance : TBytes Try.prog 179 4 := ⟨by kernel_rfl⟩
instance : TCell Try.prog 179 := ⟨by kernel_rfl⟩
instance : TZero Try.prog 179 [.int .i32 0] := ⟨by kernel_rfl⟩
instance : TInt Try.prog 179 .i32 := ⟨by kernel_rfl⟩
instance : TSize Try.prog 180 1 := ⟨by kernel_rfl⟩
instance : TBytes Try.prog 180 4 := ⟨by kernel_rfl⟩
instance : TCell Try.prog 180 := ⟨by kernel_rfl⟩
instance : TZero Try.prog 180 [.int .i32 0] := ⟨by kernel_rfl⟩
instance : TInt Try.prog 180 .i32 := ⟨by kernel_rfl⟩
instance : TSize Try.prog 181 11 := ⟨by kernel_rfl⟩
instance : TBytes Try.prog 181 48 := ⟨by kernel_rfl⟩
instance : TAgg Try.prog 181 := ⟨by kernel_rfl⟩
instance : TZero Try.prog 181 [.int .u64 0, .int .u64 0, .int .u32 0, .int .u8 0, .int .u8 0, .int .u8 0, .int .u8 0, .nilFunc, .pointer none, .int .i32 0, .int .i32 0] := ⟨by kernel_rfl⟩
instance : FieldOff Try.prog 181 0 0 12 1 := ⟨by kernel_rfl⟩
instance : FieldOff Try.prog 181 1 1 12 1 := ⟨by kernel_rfl⟩
instance : FieldOff Try.prog 181 2 2 157 1 := ⟨by kernel_rfl⟩
instance : FieldOff Try.prog 181 3 3 175 1 := ⟨by kernel_rfl⟩
instance : FieldOff Try.prog 181 4 4 5 1 := ⟨by kernel_rfl⟩
instance : FieldOff Try.prog 181 5 5 5 1 := ⟨by kernel_rfl⟩
instance : FieldOff Try.prog 181 6 6 176 1 := ⟨by kernel_rfl⟩
instance : FieldOff Try.prog 181 7 7 177 1 := ⟨by kernel_rfl⟩
instance : FieldOff Try.prog 181 8 8 178 1 := ⟨by kernel_rfl⟩
instance : FieldOff Try.prog 181 9 9 179 1 := ⟨by kernel_rfl⟩
instance : FieldOff Try.prog 181 10 10 180 1 := ⟨by kernel_rfl⟩
instance : TStructOk Try.prog 181 := ⟨by kernel_rfl⟩
instance : TStruct Try.prog 181 [(0, 1), (1, 1), (2, 1), (3, 1), (4, 1), (5, 1), (6, 1), (7, 1), (8, 1), (9, 1), (10, 1)] := ⟨by kernel_rfl⟩
instance : TSize Try.prog 182 11 := ⟨by kernel_rfl⟩
instance : TBytes Try.prog 182 48 := ⟨by kernel_rfl⟩
instance : TAgg Try.prog 182 := ⟨by kernel_rfl⟩
instance : TZero Try.prog 182 [.int .u64 0, .int .u64 0, .int .u32 0, .int .u8 0, .int .u8 0, .int .u8 0, .int .u8 0, .nilFunc, .pointer none, .int .i32 0, .int .i32 0] := ⟨by kernel_rfl⟩
instance : FieldOff Try.prog 182 0 0 12 1 := ⟨by kernel_rfl⟩
instance : FieldOff Try.prog 182 1 1 12 1 := ⟨by kernel_rfl⟩
instance : FieldOff Try.prog 182 2 2 157 1 := ⟨by kernel_rfl⟩
instance : FieldOff Try.prog 182 3 3 175 1 := ⟨by kernel_rfl⟩
instance : FieldOff Try.prog 182 4 4 5 1 := ⟨by kernel_rfl⟩
instance : FieldOff Try.prog 182 5 5 5 1 := ⟨by kernel_rfl⟩
instance : FieldOff Try.prog 182 6 6 176 1 := ⟨by kernel_rfl⟩
instance : FieldOff Try.prog 182 7 7 177 1 := ⟨by kernel_rfl⟩
instance : FieldOff Try.prog 182 8 8 178 1 := ⟨by kernel_rfl⟩
instance : FieldOff Try.prog 182 9 9 179 1 := ⟨by kernel_rfl⟩
instance : FieldOff Try.prog 182 10 10 180 1 := ⟨by kernel_rfl⟩
instance : TStructOk Try.prog 182 := ⟨by kernel_rfl⟩
instance : TStruct Try.prog 182 [(0, 1), (1, 1), (2, 1), (3, 1), (4, 1), (5, 1), (6, 1), (7, 1), (8, 1), (9, 1), (10, 1)] := ⟨by kernel_rfl⟩
instance : TSize Try.prog 183 1 := ⟨by kernel_rfl⟩
instance : TBytes Try.prog 183 8 := ⟨by kernel_rfl⟩
instance : TCell Try.prog 183 := ⟨by kernel_rfl⟩
instance : HasBody Try.prog 3 := ⟨by kernel_rfl⟩
instance : HasBody Try.prog 4 := ⟨by kernel_rfl⟩
instance : HasBody Try.prog 5 := ⟨by kernel_rfl⟩
instance : HasBody Try.prog 6 := ⟨by kernel_rfl⟩
instance : HasBody Try.prog 7 := ⟨by kernel_rfl⟩
instance : HasBody Try.prog 8 := ⟨by kernel_rfl⟩
instance : HasBody Try.prog 9 := ⟨by kernel_rfl⟩
instance : HasBody Try.prog 10 := ⟨by kernel_rfl⟩
instance : HasBody Try.prog 11 := ⟨by kernel_rfl⟩
instance : HasBody Try.prog 12 := ⟨by kernel_rfl⟩
instance : HasBody Try.prog 13 := ⟨by kernel_rfl⟩
instance : HasBody Try.prog 14 := ⟨by kernel_rfl⟩
instance : HasBody Try.prog 15 := ⟨by kernel_rfl⟩
instance : HasBody Try.prog 16 := ⟨by kernel_rfl⟩
instance : HasBody Try.prog 17 := ⟨by kernel_rfl⟩
instance : HasBody Try.prog 18 := ⟨by kernel_rfl⟩
instance : HasBody Try.prog 19 := ⟨by kernel_rfl⟩
instance : HasBody Try.prog 20 := ⟨by kernel_rfl⟩
instance : HasBody Try.prog 21 := ⟨by kernel_rfl⟩
instance : HasBody Try.prog 22 := ⟨by kernel_rfl⟩
instance : HasBody Try.prog 23 := ⟨by kernel_rfl⟩
instance : HasBody Try.prog 24 := ⟨by kernel_rfl⟩
instance : HasBody Try.prog 25 := ⟨by kernel_rfl⟩
instance : HasBody Try.prog 26 := ⟨by kernel_rfl⟩
instance : HasBody Try.prog 27 := ⟨by kernel_rfl⟩
instance : HasBody Try.prog 28 := ⟨by kernel_rfl⟩
instance : HasBody Try.prog 29 := ⟨by kernel_rfl⟩
instance : HasBody Try.prog 30 := ⟨by kernel_rfl⟩
instance : HasBody Try.prog 31 := ⟨by kernel_rfl⟩
instance : HasBody Try.prog 32 := ⟨by kernel_rfl⟩
instance : HasBody Try.prog 33 := ⟨by kernel_rfl⟩
instance : HasBody Try.prog 34 := ⟨by kernel_rfl⟩
instance : HasBody Try.prog 35 := ⟨by kernel_rfl⟩
instance : HasBody Try.prog 36 := ⟨by kernel_rfl⟩
instance : HasBody Try.prog 37 := ⟨by kernel_rfl⟩
instance : HasBody Try.prog 38 := ⟨by kernel_rfl⟩
instance : HasBody Try.prog 39 := ⟨by kernel_rfl⟩
instance : HasBody Try.prog 40 := ⟨by kernel_rfl⟩
instance : HasBody Try.prog 41 := ⟨by kernel_rfl⟩
instance : HasBody Try.prog 42 := ⟨by kernel_rfl⟩
instance : HasBody Try.prog 43 := ⟨by kernel_rfl⟩
instance : HasBody Try.prog 44 := ⟨by kernel_rfl⟩
instance : HasBody Try.prog 45 := ⟨by kernel_rfl⟩
instance : HasBody Try.prog 46 := ⟨by kernel_rfl⟩
instance : HasBody Try.prog 47 := ⟨by kernel_rfl⟩
instance : HasBody Try.prog 48 := ⟨by kernel_rfl⟩
instance : HasBody Try.prog 49 := ⟨by kernel_rfl⟩
instance : HasBody Try.prog 50 := ⟨by kernel_rfl⟩
instance : HasBody Try.prog 51 := ⟨by kernel_rfl⟩
instance : HasBody Try.prog 52 := ⟨by kernel_rfl⟩
instance : HasBody Try.prog 53 := ⟨by kernel_rfl⟩
instance : HasBody Try.prog 54 := ⟨by kernel_rfl⟩
instance : HasBody Try.prog 55 := ⟨by kernel_rfl⟩
instance : HasBody Try.prog 56 := ⟨by kernel_rfl⟩
instance : HasBody Try.prog 57 := ⟨by kernel_rfl⟩
instance : HasBody Try.prog 58 := ⟨by kernel_rfl⟩
instance : HasBody Try.prog 59 := ⟨by kernel_rfl⟩
instance : HasBody Try.prog 60 := ⟨by kernel_rfl⟩
instance : HasBody Try.prog 61 := ⟨by kernel_rfl⟩
instance : HasBody Try.prog 62 := ⟨by kernel_rfl⟩
instance : HasBody Try.prog 63 := ⟨by kernel_rfl⟩
instance : HasBody Try.prog 64 := ⟨by kernel_rfl⟩
instance : HasBody Try.prog 65 := ⟨by kernel_rfl⟩
instance : HasBody Try.prog 66 := ⟨by kernel_rfl⟩
instance : HasBody Try.prog 67 := ⟨by kernel_rfl⟩
instance : HasBody Try.prog 68 := ⟨by kernel_rfl⟩
instance : HasBody Try.prog 69 := ⟨by kernel_rfl⟩
instance : HasBody Try.prog 70 := ⟨by kernel_rfl⟩
instance : HasBody Try.prog 71 := ⟨by kernel_rfl⟩
instance : HasBody Try.prog 72 := ⟨by kernel_rfl⟩
instance : HasBody Try.prog 73 := ⟨by kernel_rfl⟩
instance : HasBody Try.prog 74 := ⟨by kernel_rfl⟩
instance : HasBody Try.prog 75 := ⟨by kernel_rfl⟩
instance : HasBody Try.prog 76 := ⟨by kernel_rfl⟩
instance : HasBody Try.prog 77 := ⟨by kernel_rfl⟩
instance : HasBody Try.prog 78 := ⟨by kernel_rfl⟩
instance : HasBody Try.prog 79 := ⟨by kernel_rfl⟩
instance : HasBody Try.prog 80 := ⟨by kernel_rfl⟩
instance : HasBody Try.prog 81 := ⟨by kernel_rfl⟩
instance : HasBody Try.prog 82 := ⟨by kernel_rfl⟩
instance : HasBody Try.prog 83 := ⟨by kernel_rfl⟩
instance : HasBody Try.prog 84 := ⟨by kernel_rfl⟩
instance : HasBody Try.prog 85 := ⟨by kernel_rfl⟩
instance : HasBody Try.prog 86 := ⟨by kernel_rfl⟩
instance : HasBody Try.prog 87 := ⟨by kernel_rfl⟩
instance : HasBody Try.prog 88 := ⟨by kernel_rfl⟩
instance : HasBody Try.prog 89 := ⟨by kernel_rfl⟩
instance : HasBody Try.prog 90 := ⟨by kernel_rfl⟩
instance : HasBody Try.prog 91 := ⟨by kernel_rfl⟩
instance : HasBody Try.prog 92 := ⟨by kernel_rfl⟩
instance : HasBody Try.prog 93 := ⟨by kernel_rfl⟩
instance : HasBody Try.prog 94 := ⟨by kernel_rfl⟩
instance : HasBody Try.prog 95 := ⟨by kernel_rfl⟩
instance : HasBody Try.prog 96 := ⟨by kernel_rfl⟩
instance : HasBody Try.prog 97 := ⟨by kernel_rfl⟩
instance : HasBody Try.prog 98 := ⟨by kernel_rfl⟩
instance : HasBody Try.prog 99 := ⟨by kernel_rfl⟩
instance : HasBody Try.prog 100 := ⟨by kernel_rfl⟩
instance : HasBody Try.prog 101 := ⟨by kernel_rfl⟩
instance : HasBody Try.prog 102 := ⟨by kernel_rfl⟩
instance : HasBody Try.prog 103 := ⟨by kernel_rfl⟩
end Go.Proofs.Ytnoggejkkjngjaa
/- A region that draws its order, walked in the few orders that make a difference. No condition. -/
set_option linter.unusedVariables false
namespace Go.Sl
open Go
/-- Orders: one operation behind the other, or either of two ways. -/
inductive Tr where
  | done
  | step (i : Nat) (t : Tr)
  | alt (t u : Tr)
namespace Tr
def els : Tr → List Nat
  | done => []
  | step i t => i :: els t
  | alt t u => els t ++ els u
def has (k : Nat) : Tr → Bool
  | done => false
  | step i t => i == k || has k t
  | alt t u => has k t && has k u
def front (bad : List Nat) (j : Nat) : Tr → Option Tr
  | done => none
  | step x t => if x = j then some t else if bad.contains x then none else (front bad j t).map (step x)
  | alt t u => match front bad j t with
    | some t' => some t'
    | none => front bad j u
def strip (p : Nat → Bool) : Tr → Tr
  | done => done
  | step i t => if p i then strip p t else step i (strip p t)
  | alt t u => alt (strip p t) (strip p u)
def noAlt : Tr → Bool
  | done => true
  | step _ t => noAlt t
  | alt _ _ => false
def pairs (R : Nat → Nat → Bool) : Tr → Bool
  | done => true
  | step x t => (els t).all (R x) && pairs R t
  | alt t u => pairs R t && pairs R u
end Tr
section draw
variable {P : Program} {ops : Array Oper} {Inv : World → Prop} {fm : Fm}
def Xt (P : Program) (ops : Array Oper) (Inv : World → Prop) (fm : Fm) (K : Act → World → Prop) : Tr → Act → World → Prop
  | .done => K
  | .step i t => match ops[i]? with
    | some o => stepX P ops Inv fm o (Xt P ops Inv fm K t)
    | none => Xt P ops Inv fm K t
  | .alt t u => fun a w => Xt P ops Inv fm K t a w ∧ Xt P ops Inv fm K u a w
def commB (fm : Fm) (ops : Array Oper) (x j : Nat) : Bool := match ops[x]?, ops[j]? with
  | some ox, some oj => ox.apart ops oj && stepableB fm ox oj
  | _, _ => true
def relB (fm : Fm) (ops : Array Oper) (bad : List Nat) (x j : Nat) : Bool := !(x == j) && (anc ops ops.size x j || (bad.contains x && bad.contains j) || commB fm ops x j)
def cov (ops : Array Oper) (bad : List Nat) : Nat → List Nat → Tr → Bool
  | 0, S, t => bad.all (fun b => S.contains b) && t.noAlt
  | f + 1, S, t => if bad.all (fun b => S.contains b) then t.noAlt else
    bad.all fun j => S.contains j || !(bad.all fun b => S.contains b || !anc ops ops.size b j) || (match Tr.front bad j t with | some u => cov ops bad f (j :: S) u | none => false)
def lightB (fm : Fm) (ops : Array Oper) (j : Nat) : Bool := match ops[j]? with
  | some o => kindB fm o.dst o.op == 0 || kindB fm o.dst o.op == 1
  | none => true
def treeOk (fm : Fm) (ops : Array Oper) (bad : List Nat) (t : Tr) : Bool :=
  (ops.toList.all fun o => !isSelect o.op) &&
  ((List.range ops.size).all fun i => match ops[i]? with | some o => o.after.toList.all fun e => !Region.binds .any e || decide (e.on < i) | none => true) &&
  t.pairs (relB fm ops bad) && (t.els.all fun x => decide (x < ops.size)) && (bad.all fun x => decide (x < ops.size)) && ((List.range ops.size).all fun j => t.has j) &&
  ((List.range ops.size).all fun j => bad.contains j || lightB fm ops j || bad.all fun b => anc ops ops.size b j) && cov ops bad bad.length [] t

theorem front_els {bad : List Nat} {j : Nat} : ∀ {t u : Tr}, Tr.front bad j t = some u → j ∈ t.els ∧ ∀ x ∈ u.els, x ∈ t.els
  | .done, u, h => by simp [Tr.front] at h
  | .step x t, u, h => by
    simp only [Tr.front] at h
    split at h
    · rename_i e; cases h; exact ⟨by simp [Tr.els, e], fun y hy => List.mem_cons_of_mem _ hy⟩
    · split at h
      · cases h
      · obtain ⟨v, hv, rfl⟩ := Option.map_eq_some_iff.1 h
        obtain ⟨h1, h2⟩ := front_els hv
        refine ⟨List.mem_cons_of_mem _ h1, fun y hy => ?_⟩
        rcases List.mem_cons.1 hy with rfl | hy
        · exact List.mem_cons_self ..
        · exact List.mem_cons_of_mem _ (h2 y hy)
  | .alt t v, u, h => by
    simp only [Tr.front] at h
    split at h
    · rename_i t' e
      cases h
      obtain ⟨h1, h2⟩ := front_els e
      exact ⟨List.mem_append_left _ h1, fun y hy => List.mem_append_left _ (h2 y hy)⟩
    · obtain ⟨h1, h2⟩ := front_els h
      exact ⟨List.mem_append_right _ h1, fun y hy => List.mem_append_right _ (h2 y hy)⟩
theorem front_pairs {R : Nat → Nat → Bool} {bad : List Nat} {j : Nat} : ∀ {t u : Tr}, Tr.front bad j t = some u → t.pairs R = true → u.pairs R = true
  | .done, u, h, _ => by simp [Tr.front] at h
  | .step x t, u, h, hp => by
    simp only [Tr.pairs, Bool.and_eq_true] at hp
    simp only [Tr.front] at h
    split at h
    · cases h; exact hp.2
    · split at h
      · cases h
      · obtain ⟨v, hv, rfl⟩ := Option.map_eq_some_iff.1 h
        simp only [Tr.pairs, Bool.and_eq_true]
        exact ⟨List.all_eq_true.2 fun y hy => List.all_eq_true.1 hp.1 y ((front_els hv).2 y hy), front_pairs hv hp.2⟩
  | .alt t v, u, h, hp => by
    simp only [Tr.pairs, Bool.and_eq_true] at hp
    simp only [Tr.front] at h
    split at h
    · rename_i t' e; cases h; exact front_pairs e hp.1
    · exact front_pairs h hp.2
theorem front_has {bad : List Nat} {j k : Nat} (hk : k ≠ j) : ∀ {t u : Tr}, Tr.front bad j t = some u → t.has k = true → u.has k = true
  | .done, u, h, _ => by simp [Tr.front] at h
  | .step x t, u, h, hp => by
    simp only [Tr.has, Bool.or_eq_true, beq_iff_eq] at hp
    simp only [Tr.front] at h
    split at h
    · rename_i e
      cases h
      rcases hp with hp | hp
      · omega
      · exact hp
    · split at h
      · cases h
      · obtain ⟨v, hv, rfl⟩ := Option.map_eq_some_iff.1 h
        simp only [Tr.has, Bool.or_eq_true, beq_iff_eq]
        rcases hp with hp | hp
        · exact .inl hp
        · exact .inr (front_has hk hv hp)
  | .alt t v, u, h, hp => by
    simp only [Tr.has, Bool.and_eq_true] at hp
    simp only [Tr.front] at h
    split at h
    · rename_i t' e; cases h; exact front_has hk e hp.1
    · exact front_has hk h hp.2
theorem strip_congr {p q : Nat → Bool} : ∀ {t : Tr}, (∀ x ∈ t.els, p x = q x) → t.strip p = t.strip q
  | .done, _ => rfl
  | .step x t, h => by
    simp only [Tr.strip, h x (List.mem_cons_self ..), strip_congr (t := t) fun y hy => h y (List.mem_cons_of_mem _ hy)]
  | .alt t u, h => by
    simp only [Tr.strip, strip_congr (t := t) fun y hy => h y (List.mem_append_left _ hy), strip_congr (t := u) fun y hy => h y (List.mem_append_right _ hy)]
theorem strip_all {p : Nat → Bool} : ∀ {t : Tr}, t.noAlt = true → (∀ x ∈ t.els, p x = true) → t.strip p = .done
  | .done, _, _ => rfl
  | .step x t, h, hp => by
    simp only [Tr.strip, hp x (List.mem_cons_self ..), if_true]
    exact strip_all (t := t) h fun y hy => hp y (List.mem_cons_of_mem _ hy)
theorem stepX_both {o : Oper} {K1 K2 : Act → World → Prop} {a : Act} {w : World} (hI : Inv w) (hk : kindB fm o.dst o.op = 0 ∨ kindB fm o.dst o.op = 1) (h1 : stepX P ops Inv fm o K1 a w) (h2 : stepX P ops Inv fm o K2 a w) :
    stepX P ops Inv fm o (fun a w => K1 a w ∧ K2 a w) a w := by
  unfold stepX at *
  split
  · rename_i hw
    rw [if_pos hw] at h1 h2
    rcases hk with hk | hk
    · rw [hk] at h1 h2 ⊢
      obtain ⟨v, e1, k1⟩ := h1
      obtain ⟨u, e2, k2⟩ := h2
      have := (e1 w hI).symm.trans (e2 w hI)
      cases this
      exact ⟨v, e1, k1, k2⟩
    · rw [hk] at h1 h2 ⊢
      obtain ⟨v, e1, k1⟩ := h1
      obtain ⟨u, e2, k2⟩ := h2
      have := (e1 w (Ext.refl w)).symm.trans (e2 w (Ext.refl w))
      cases this
      exact ⟨v, e1, k1, k2⟩
  · rename_i hw
    rw [if_neg hw] at h1 h2
    exact ⟨h1, h2⟩

section tree
variable {bad : List Nat} {K : Act → World → Prop}
def Comm (fm : Fm) (ops : Array Oper) (x j : Nat) : Prop := ∀ ox oj, ops[x]? = some ox → ops[j]? = some oj → ox.apart ops oj = true ∧ Stepable fm ox oj
theorem commB_out {x j : Nat} (h : commB fm ops x j = true) : Comm fm ops x j := fun ox oj hx hj => by
  unfold commB at h
  rw [hx, hj] at h
  simp only [Bool.and_eq_true, stepableB, Bool.or_eq_true, beq_iff_eq] at h
  refine ⟨h.1, ?_⟩
  rcases h.2 with (h | h) | h
  · exact .inl h
  · exact .inr (.inl h)
  · exact .inr (.inr h)
theorem Xt_step_swap (hsel : ∀ (j : Nat) (o : Oper), ops[j]? = some o → ∀ cs b, o.op ≠ .select cs b) {x j : Nat} {oj : Oper} (hj : ops[j]? = some oj) (hc : Comm fm ops x j) {t u : Tr} {a : Act} {w : World} (hI : Inv w)
    (ih : ∀ a w, Inv w → Xt P ops Inv fm K t a w → stepX P ops Inv fm oj (Xt P ops Inv fm K u) a w) (h : Xt P ops Inv fm K (.step x t) a w) : stepX P ops Inv fm oj (Xt P ops Inv fm K (.step x u)) a w := by
  simp only [Xt] at h ⊢
  cases hx : ops[x]? with
  | none => rw [hx] at h; simpa using ih a w hI h
  | some ox =>
    rw [hx] at h
    have h2 := stepX_mono hI ih h
    obtain ⟨q1, q2⟩ := hc ox oj hx hj
    exact swap hI (hsel x ox hx) (hsel j oj hj) q1 q2 h2
theorem bad_front (hsel : ∀ (j : Nat) (o : Oper), ops[j]? = some o → ∀ cs b, o.op ≠ .select cs b) {p q : Nat → Bool} {j : Nat} {oj : Oper} (hj : ops[j]? = some oj) (hpj : p j = false) (hq : ∀ x, x ≠ j → q x = p x) (hb : bad.contains j = true)
    (hanc : ∀ x, anc ops ops.size x j = true → p x = true) : ∀ {t u : Tr}, Tr.front bad j t = some u → t.pairs (relB fm ops bad) = true → ∀ a w, Inv w → Xt P ops Inv fm K (t.strip p) a w → stepX P ops Inv fm oj (Xt P ops Inv fm K (u.strip q)) a w
  | .done, u, h, _, _, _, _, _ => by simp [Tr.front] at h
  | .step x t, u, h, hp, a, w, hI, hX => by
    simp only [Tr.pairs, Bool.and_eq_true] at hp
    simp only [Tr.front] at h
    split at h
    · rename_i e
      cases h
      subst e
      have e2 : t.strip q = t.strip p := strip_congr fun y hy => hq y (by
        have := List.all_eq_true.1 hp.1 y hy
        simp only [relB, Bool.and_eq_true, Bool.not_eq_true', beq_eq_false_iff_ne] at this
        exact fun e => this.1 e.symm)
      rw [e2]
      simp only [Tr.strip, hpj] at hX
      simpa [Xt, hj] using hX
    · rename_i hne
      split at h
      · cases h
      · rename_i hnb
        obtain ⟨v, hv, rfl⟩ := Option.map_eq_some_iff.1 h
        have hr := List.all_eq_true.1 hp.1 j (front_els hv).1
        cases hpx : p x with
        | true =>
          simp only [Tr.strip, hpx, hq x hne, if_true] at hX ⊢
          exact bad_front hsel hj hpj hq hb hanc hv hp.2 a w hI hX
        | false =>
          have hc : commB fm ops x j = true := by
            simp only [relB, Bool.and_eq_true, Bool.or_eq_true] at hr
            rcases hr.2 with (h1 | h1) | h1
            · rw [hanc x h1] at hpx; cases hpx
            · exact absurd h1.1 hnb
            · exact h1
          simp only [Tr.strip, hpx, hq x hne] at hX ⊢
          exact Xt_step_swap hsel hj (commB_out hc) hI (bad_front hsel hj hpj hq hb hanc hv hp.2) hX
  | .alt t v, u, h, hp, a, w, hI, hX => by
    simp only [Tr.pairs, Bool.and_eq_true] at hp
    simp only [Tr.front] at h
    simp only [Tr.strip, Xt] at hX
    split at h
    · rename_i t' e; cases h; exact bad_front hsel hj hpj hq hb hanc e hp.1 a w hI hX.1
    · exact bad_front hsel hj hpj hq hb hanc h hp.2 a w hI hX.2
theorem good_front (hsel : ∀ (j : Nat) (o : Oper), ops[j]? = some o → ∀ cs b, o.op ≠ .select cs b) {p q : Nat → Bool} {j : Nat} {oj : Oper} (hj : ops[j]? = some oj) (hpj : p j = false) (hqj : q j = true) (hq : ∀ x, x ≠ j → q x = p x) (hb : bad.contains j = false)
    (hanc : ∀ x, anc ops ops.size x j = true → p x = true) : ∀ {t : Tr}, (lightB fm ops j = true ∨ t.noAlt = true) → t.has j = true → t.pairs (relB fm ops bad) = true → ∀ a w, Inv w → Xt P ops Inv fm K (t.strip p) a w → stepX P ops Inv fm oj (Xt P ops Inv fm K (t.strip q)) a w
  | .done, _, h, _, _, _, _, _ => by simp [Tr.has] at h
  | .step x t, hl, h, hp, a, w, hI, hX => by
    simp only [Tr.pairs, Bool.and_eq_true] at hp
    simp only [Tr.has, Bool.or_eq_true, beq_iff_eq] at h
    have hmem : ∀ {t : Tr}, t.has j = true → t.pairs (relB fm ops bad) = true → j ∈ t.els := by
      intro t
      induction t with
      | done => intro h; simp [Tr.has] at h
      | step y t ih =>
        intro h hp
        simp only [Tr.pairs, Bool.and_eq_true] at hp
        simp only [Tr.has, Bool.or_eq_true, beq_iff_eq] at h
        rcases h with h | h
        · simp [Tr.els, h]
        · exact List.mem_cons_of_mem _ (ih h hp.2)
      | alt t u ih1 ih2 =>
        intro h hp
        simp only [Tr.pairs, Bool.and_eq_true] at hp
        simp only [Tr.has, Bool.and_eq_true] at h
        exact List.mem_append_left _ (ih1 h.1 hp.1)
    by_cases hxj : x = j
    · subst hxj
      have e2 : t.strip q = t.strip p := strip_congr fun y hy => hq y (by
        have := List.all_eq_true.1 hp.1 y hy
        simp only [relB, Bool.and_eq_true, Bool.not_eq_true', beq_eq_false_iff_ne] at this
        exact fun e => this.1 e.symm)
      simp only [Tr.strip, hpj, hqj, if_true, e2] at hX ⊢
      simpa [Xt, hj] using hX
    · have h' : t.has j = true := by rcases h with h | h; exact absurd h hxj; exact h
      have hl' : lightB fm ops j = true ∨ t.noAlt = true := hl.imp id (fun h => h)
      have hr := List.all_eq_true.1 hp.1 j (hmem h' hp.2)
      cases hpx : p x with
      | true =>
        simp only [Tr.strip, hpx, hq x hxj, if_true] at hX ⊢
        exact good_front hsel hj hpj hqj hq hb hanc hl' h' hp.2 a w hI hX
      | false =>
        have hc : commB fm ops x j = true := by
          simp only [relB, Bool.and_eq_true, Bool.or_eq_true] at hr
          rcases hr.2 with (h1 | h1) | h1
          · rw [hanc x h1] at hpx; cases hpx
          · rw [hb] at h1; cases h1.2
          · exact h1
        simp only [Tr.strip, hpx, hq x hxj] at hX ⊢
        exact Xt_step_swap hsel hj (commB_out hc) hI (good_front hsel hj hpj hqj hq hb hanc hl' h' hp.2) hX
  | .alt t u, hl, h, hp, a, w, hI, hX => by
    simp only [Tr.pairs, Bool.and_eq_true] at hp
    simp only [Tr.has, Bool.and_eq_true] at h
    have hl' : lightB fm ops j = true := by rcases hl with h | h; exact h; simp [Tr.noAlt] at h
    have hk : kindB fm oj.dst oj.op = 0 ∨ kindB fm oj.dst oj.op = 1 := by
      unfold lightB at hl'; rw [hj] at hl'; simpa using hl'
    simp only [Tr.strip, Xt] at hX ⊢
    exact stepX_both hI hk (good_front hsel hj hpj hqj hq hb hanc (.inl hl') h.1 hp.1 a w hI hX.1) (good_front hsel hj hpj hqj hq hb hanc (.inl hl') h.2 hp.2 a w hI hX.2)
theorem cov_all : ∀ {f : Nat} {S : List Nat} {t : Tr}, cov ops bad f S t = true → (∀ b ∈ bad, S.contains b = true) → t.noAlt = true
  | 0, S, t, h, _ => by simp only [cov, Bool.and_eq_true] at h; exact h.2
  | f + 1, S, t, h, hS => by
    simp only [cov] at h
    rw [if_pos (List.all_eq_true.2 hS)] at h
    exact h
theorem cov_step {j : Nat} (hj : j ∈ bad) : ∀ {f : Nat} {S : List Nat} {t : Tr}, cov ops bad f S t = true → S.contains j = false → (∀ b ∈ bad, anc ops ops.size b j = true → S.contains b = true) → ∃ u f', Tr.front bad j t = some u ∧ cov ops bad f' (j :: S) u = true
  | 0, S, t, h, hS, _ => by
    simp only [cov, Bool.and_eq_true] at h
    have := List.all_eq_true.1 h.1 j hj
    rw [hS] at this; cases this
  | f + 1, S, t, h, hS, ha => by
    simp only [cov] at h
    rw [if_neg (fun e => by have := List.all_eq_true.1 e j hj; rw [hS] at this; cases this)] at h
    have h1 := List.all_eq_true.1 h j hj
    have h2 : (bad.all fun b => S.contains b || !anc ops ops.size b j) = true := List.all_eq_true.2 fun b hb => by
      cases h3 : anc ops ops.size b j with
      | false => simp
      | true => rw [ha b hb h3]; rfl
    rw [hS, h2] at h1
    simp only [Bool.not_true, Bool.or_false, Bool.false_or] at h1
    split at h1
    · rename_i u hu; exact ⟨u, f, hu, h1⟩
    · cases h1
theorem draw_tree {ro : Option Nat} (hsel : ∀ (j : Nat) (o : Oper), ops[j]? = some o → ∀ cs b, o.op ≠ .select cs b)
    (hback : ∀ i o, ops[i]? = some o → ∀ e ∈ o.after, Region.binds .any e = true → e.on < i)
    (hkind : ∀ j, j < ops.size → bad.contains j = false → lightB fm ops j = true ∨ ∀ b ∈ bad, anc ops ops.size b j = true) (hbs : ∀ b ∈ bad, b < ops.size) :
    ∀ (fuel : Nat) (listed : Array Bool) (L : List Nat) (S : List Nat) (t : Tr) (f : Nat), listed.size = ops.size → L.Nodup → (∀ j, j ∈ L ↔ (j < ops.size ∧ listed.getD j true = false)) → L.length ≤ fuel →
    (∀ i, listed.getD i false = true → ∀ k x, anc ops k x i = true → listed.getD x false = true) →
    (∀ b ∈ bad, S.contains b = listed.getD b false) → cov ops bad f S t = true → t.pairs (relB fm ops bad) = true → (∀ x ∈ t.els, x < ops.size) → (∀ k, k < ops.size → listed.getD k true = false → t.has k = true) →
    ∀ a w, Inv w → Xt P ops Inv fm K (t.strip (fun x => listed.getD x false)) a w → wpAnyIn (fen ro) 0 P .any ops (onlyN K) fuel listed a w := by
  have gd : ∀ (l : Array Bool) (j : Nat), j < l.size → (l.getD j true = false ↔ ¬ l.getD j false = true) := fun l j hj => by
    simp [Array.getD, hj]
  have hdone : ∀ (listed : Array Bool) (S : List Nat) (t : Tr) (f : Nat), listed.size = ops.size → (∀ j, j < ops.size → listed.getD j false = true) → (∀ b ∈ bad, S.contains b = listed.getD b false) → cov ops bad f S t = true →
      (∀ x ∈ t.els, x < ops.size) → t.strip (fun x => listed.getD x false) = .done := fun listed S t f hsz hall hS hc hel =>
    strip_all (cov_all hc fun b hb => by rw [hS b hb]; exact hall b (hbs b hb)) (fun x hx => hall x (hel x hx))
  have hready : ∀ (listed : Array Bool), listed.size = ops.size → Region.ready .any ops listed = [] → ∀ j, j < ops.size → listed.getD j false = true := by
    intro listed hsz hr j
    induction j using Nat.strongRecOn with
    | _ j ih =>
      intro hj
      rcases Bool.eq_false_or_eq_true (listed.getD j false) with h1 | h1
      · exact h1
      · exfalso
        have : j ∈ Region.ready .any ops listed := mem_ready.2 ⟨(gd listed j (by omega)).2 (by simp [h1]), ops[j]'hj, by simp [hj], fun e he hb => by
          have := hback j _ (by simp [hj]) e he hb
          exact ih e.on this (by omega)⟩
        rw [hr] at this; cases this
  intro fuel
  induction fuel with
  | zero =>
    intro listed L S t f hsz hnd hL hlen hD hS hc hp hel hh a w hI h
    obtain rfl : L = [] := List.length_eq_zero_iff.1 (by omega)
    have hall : ∀ j, j < ops.size → listed.getD j false = true := fun j hj => by
      rcases Bool.eq_false_or_eq_true (listed.getD j false) with h1 | h1
      · exact h1
      · exact absurd ((hL j).2 ⟨hj, (gd listed j (by omega)).2 (by simp [h1])⟩) (by simp)
    rw [hdone listed S t f hsz hall hS hc hel] at h
    refine ⟨?_, h⟩
    cases hr : Region.ready .any ops listed with
    | nil => rfl
    | cons j js =>
      have hj : j ∈ Region.ready .any ops listed := by rw [hr]; exact List.mem_cons_self ..
      obtain ⟨h0, o, ho, _⟩ := mem_ready.1 hj
      have := (hL j).2 ⟨(Array.getElem?_eq_some_iff.1 ho).1, h0⟩
      cases this
  | succ fuel ih =>
    intro listed L S t f hsz hnd hL hlen hD hS hc hp hel hh a w hI h
    refine ⟨fun hr => ?_, fun j hj => ?_⟩
    · rw [hdone listed S t f hsz (hready listed hsz hr) hS hc hel] at h
      exact h
    · obtain ⟨h0, oj, hoj, hall⟩ := mem_ready.1 hj
      have hjlt : j < ops.size := (Array.getElem?_eq_some_iff.1 hoj).1
      have hjL : j ∈ L := (hL j).2 ⟨hjlt, h0⟩
      have hpj : listed.getD j false = false := by
        have := (gd listed j (by omega)).1 h0
        simpa using this
      have hanc : ∀ k x, anc ops k x j = true → listed.getD x false = true := by
        intro k x hx
        cases k with
        | zero => cases hx
        | succ k =>
          obtain ⟨o, e, ho, he, hb, h1⟩ := anc_inv hx
          rw [hoj] at ho; obtain rfl := Option.some.inj ho
          have hl := hall e he hb
          rcases h1 with h1 | h1
          · rw [← h1]; exact hl
          · exact hD _ hl k x h1
      have hq : ∀ x, x ≠ j → (listed.setIfInBounds j true).getD x false = listed.getD x false := fun x hx => getD_set_ne false (Ne.symm hx)
      have hqj : (listed.setIfInBounds j true).getD j false = true := by simp [Array.getD, hsz, hjlt]
      have hL' : ∀ x, x ∈ L.erase j ↔ (x < ops.size ∧ (listed.setIfInBounds j true).getD x true = false) := fun x => by
        by_cases hxj : x = j
        · subst hxj
          constructor
          · intro hx; exact absurd hx (by simpa using hnd.not_mem_erase)
          · rintro ⟨_, hx⟩; simp [Array.getD, hsz, hjlt] at hx
        · rw [getD_set_ne true (Ne.symm hxj), ← hL x, List.mem_erase_of_ne hxj]
      have hlen' : (L.erase j).length ≤ fuel := by rw [List.length_erase_of_mem hjL]; omega
      have hD' : ∀ i, (listed.setIfInBounds j true).getD i false = true → ∀ k x, anc ops k x i = true → (listed.setIfInBounds j true).getD x false = true := by
        intro i hi k x hx
        by_cases hij : i = j
        · subst hij; exact getD_set_true (hanc k x hx)
        · rw [getD_set_ne false (Ne.symm hij)] at hi
          exact getD_set_true (hD i hi k x hx)
      by_cases hb : bad.contains j = true
      · have hbm : j ∈ bad := by simpa using hb
        obtain ⟨u, f', hu, hcu⟩ := cov_step hbm hc (by rw [hS j hbm, hpj]) (fun b hb' ha => by rw [hS b hb']; exact hanc _ b ha)
        have hst := bad_front (P := P) (Inv := Inv) (fm := fm) (K := K) hsel hoj hpj hq hb (hanc ops.size) hu hp a w hI h
        refine wpOpIn_mono (fun a w hx => ?_) (wpOp_of_step hI hoj hst)
        refine ih (listed.setIfInBounds j true) (L.erase j) (j :: S) u f' (by simpa using hsz) (hnd.erase j) hL' hlen' hD' ?_ hcu (front_pairs hu hp) (fun x hx => hel x ((front_els hu).2 x hx)) ?_ a w hx.1 hx.2
        · intro b hb'
          by_cases hbj : b = j
          · subst hbj; rw [hqj]; simp
          · rw [hq b hbj, ← hS b hb']
            simp [hbj]
        · intro k hk hkl
          by_cases hkj : k = j
          · subst hkj; simp [Array.getD, hsz, hjlt] at hkl
          · exact front_has hkj hu (hh k hk (by rwa [getD_set_ne true (Ne.symm hkj)] at hkl))
      · have hb0 : bad.contains j = false := by simpa using hb
        have hl : lightB fm ops j = true ∨ t.noAlt = true := by
          rcases hkind j hjlt hb0 with h1 | h1
          · exact .inl h1
          · exact .inr (cov_all hc fun b hb' => by rw [hS b hb']; exact hanc _ b (h1 b hb'))
        have hst := good_front (P := P) (Inv := Inv) (fm := fm) (K := K) hsel hoj hpj hqj hq hb0 (hanc ops.size) hl (hh j hjlt h0) hp a w hI h
        refine wpOpIn_mono (fun a w hx => ?_) (wpOp_of_step hI hoj hst)
        refine ih (listed.setIfInBounds j true) (L.erase j) S t f (by simpa using hsz) (hnd.erase j) hL' hlen' hD' ?_ hc hp hel ?_ a w hx.1 hx.2
        · intro b hb'
          have hbj : b ≠ j := fun e => by rw [e] at hb'; exact hb (by simpa using hb')
          rw [hq b hbj]; exact hS b hb'
        · intro k hk hkl
          by_cases hkj : k = j
          · subst hkj; simp [Array.getD, hsz, hjlt] at hkl
          · exact hh k hk (by rwa [getD_set_ne true (Ne.symm hkj)] at hkl)
end tree
end draw

theorem tree_tail {ro : Option Nat} {P : Program} {fm : Fm} {ops : Array Oper} {Inv : World → Prop} {K : Act → World → Prop} {Q : Exit → Act → World → Prop} {a : Act} {w : World} {bad : List Nat} {t : Tr} (hok : treeOk fm ops bad t = true)
    (h1 : Xt P ops Inv fm K t a w) (hI : Inv w) (hq : ∀ a w, K a w → Q .normal a w) :
    wpAnyIn (fen ro) 0 P .any ops Q ops.size (Array.replicate ops.size false) a w := by
  simp only [treeOk, Bool.and_eq_true] at hok
  obtain ⟨⟨⟨⟨⟨⟨⟨hsel, hback⟩, hp⟩, hel⟩, hbs⟩, hhas⟩, hkind⟩, hcov⟩ := hok
  have hstrip : t.strip (fun x => (Array.replicate ops.size false).getD x false) = t := by
    have e : (fun x => (Array.replicate ops.size false).getD x false) = fun _ => false := by funext x; simp [Array.getD]
    rw [e]
    clear hp hel hhas hcov h1
    induction t with
    | done => rfl
    | step i t ih => simp [Tr.strip, ih]
    | alt t u ih1 ih2 => simp [Tr.strip, ih1, ih2]
  have h3 := draw_tree (ro := ro) (P := P) (ops := ops) (Inv := Inv) (fm := fm) (bad := bad) (K := K) (fun j o ho cs b e => by
      have := List.all_eq_true.1 hsel o (by have := Array.mem_of_getElem? ho; simpa using this)
      rw [e] at this; cases this) (fun i o hi e he hb => by
      have hlt : i < ops.size := (Array.getElem?_eq_some_iff.1 hi).1
      have := List.all_eq_true.1 hback i (by simpa using hlt)
      rw [hi] at this
      have := List.all_eq_true.1 this e (by simpa using he)
      simpa [hb] using this) (fun j hj hb => by
      have := List.all_eq_true.1 hkind j (by simpa using hj)
      simp only [Bool.or_eq_true, List.all_eq_true] at this
      rcases this with (h | h) | h
      · rw [hb] at h; cases h
      · exact .inl h
      · exact .inr h) (fun b hb => by simpa using List.all_eq_true.1 hbs b hb)
    ops.size (Array.replicate ops.size false) (List.range ops.size) [] t bad.length (by simp) List.nodup_range (fun j => by
      simp only [List.mem_range]
      constructor
      · intro hj; exact ⟨hj, by simp [Array.getD, hj]⟩
      · exact fun hj => hj.1) (by simp) (fun i hi => by simp [Array.getD] at hi) (fun b hb => by simp [Array.getD]) hcov hp (fun x hx => by simpa using List.all_eq_true.1 hel x hx)
    (fun k hk _ => List.all_eq_true.1 hhas k (by simpa using hk)) a w hI (by rw [hstrip]; exact h1)
  exact wpAny_monoQ (fun e a' w' h => by
    cases e with
    | normal => exact hq _ _ h
    | _ => exact h.elim) _ _ _ _ h3

section code
variable {P : Program} {B : Base} {N : Nat} {F : Fr} {A : List Asn} {Q : Exit → Fr → List Asn → Prop} {K : Fr → List Asn → Prop} {ops : List Oper} {fm : Fm}
def WlT (P : Program) (B : Base) (N : Nat) (fm : Fm) (ops : List Oper) (t : Tr) (F : Fr) (A : List Asn) (K : Fr → List Asn → Prop) : Prop :=
  ∀ R, Ent [R] (mOf fm) → ∀ a w, Rep N a F → Sat B w (R :: A) → Xt P ops.toArray (fun w => Sat B w [R]) fm (Lift B N R a.defers K) t a w
theorem WlT_done (h : K F A) : WlT P B N fm ops .done F A K := fun R hE a w hr hs => ⟨rfl, F, A, hr, hs, h⟩
theorem WlT_alt {t u : Tr} (h1 : WlT P B N fm ops t F A K) (h2 : WlT P B N fm ops u F A K) : WlT P B N fm ops (.alt t u) F A K := fun R hE a w hr hs => ⟨h1 R hE a w hr hs, h2 R hE a w hr hs⟩
theorem WlT_step {i : Nat} {t : Tr} {o : Oper} (ho : ops[i]? = some o) (h : Wl P B N fm ops [o] F A (fun F' A' => WlT P B N fm ops t F' A' K)) : WlT P B N fm ops (.step i t) F A K := fun R hE a w hr hs => by
  have ho' : ops.toArray[i]? = some o := by simpa using ho
  have h1 := h R hE a w hr hs
  simp only [Xt, ho']
  refine stepX_mono hs.hd (fun a' w' _ hx => ?_) h1
  obtain ⟨hd, F', A', q1, q2, q3⟩ := hx
  have := q3 R hE a' w' q1 q2
  rw [hd] at this
  exact this
/-- The walk of a drawn region in the orders of a tree. -/
theorem Wc_tree {id : Nat} (t : Tr) (bad : List Nat) (hok : treeOk none ops.toArray bad t = true) (hm : P.follows .mixedOrders = true := by kernel_rfl)
    (h : ∀ K : Fr → List Asn → Prop, (∀ F A, Q .normal F A → K F A) → WlT P B N none ops t F A K) :
    Wc P B N (.region id ops.toArray true) F A Q := fun ro R a w hk hr hs => by
  refine wpIn_region_any hm ?_
  have hs' : Sat B { w with drawn := w.drawn + 1 } (R :: A) := ⟨hs.size, hs.io, hs.base, hs.own⟩
  have h1 := h (fun F A => Q .normal F A) (fun _ _ h => h) R Ent.nil a _ hr hs'
  exact tree_tail hok h1 hs'.hd (fun a' w' ⟨hd, F', A', q1, q2, q3⟩ => ⟨[], F', A', hd, q1, q2, q3⟩)
theorem Wc_treeF {id : Nat} (M : List Asn) (Ls : List Nat) (t : Tr) (bad : List Nat) {A1 : List Asn} (hok : treeOk (some ([], Ls)) ops.toArray bad t = true) (hm : P.follows .mixedOrders = true := by kernel_rfl) (hp : A.Perm (M ++ A1))
    (h : ∀ K : Fr → List Asn → Prop, (∀ F A, Q .normal F (M ++ A) → K F A) → WlT P B N (some (M, Ls)) ops t F A1 K) :
    Wc P B N (.region id ops.toArray true) F A Q := fun ro R a w hk hr hs => by
  refine wpIn_region_any hm ?_
  have hs' : Sat B { w with drawn := w.drawn + 1 } (lst (R :: M) :: A1) := Sat.ent (L := R :: M ++ A1) (Ent.lst_shut (R :: M) A1) ⟨hs.size, hs.io, hs.base, hs.own.perm (hp.cons R)⟩
  have hE : Ent [lst (R :: M)] M := (Ent.lst_open (R :: M) []).trans (by simpa using Ent.drop R)
  have h1 := h (fun F A => Q .normal F (M ++ A)) (fun _ _ h => h) (lst (R :: M)) hE a _ hr hs'
  have hok' : treeOk (some (M, Ls)) ops.toArray bad t = true := hok
  refine tree_tail hok' h1 hs'.hd (fun a' w' hq => ?_)
  obtain ⟨hd, F', A', h1, h2, h3⟩ := hq
  exact ⟨[], F', M ++ A', hd, h1, h2.ent (Ent.lst_open (R :: M) A'), h3⟩
end code
section rules
variable {P : Program} {B : Base} {N : Nat} {ops rest : List Oper} {F : Fr} {A : List Asn} {K : Fr → List Asn → Prop}
variable {T : TypeId} {pos : String} {aft : Array Edge} {d : Tmp} {fm : Fm} {U : TypeId}
end rules
end Go.Sl
