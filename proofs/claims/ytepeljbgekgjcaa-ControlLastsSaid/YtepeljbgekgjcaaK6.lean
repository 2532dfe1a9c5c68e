/- The closed facts on the types and functions of this seat, each asked of the kernel. Written by tyinst.py. No condition. -/
import Derived.Test.YtepeljbgekgjcaaK5
import Derived.Test.YtepeljbgekgjcaaChecked
set_option maxRecDepth 100000
namespace Go.Proofs.Ytepeljbgekgjcaa
open Go Go.Sl
instance : TSize Try.prog 1 1 := ⟨by kernel_rfl⟩
instance : TBytes Try.prog 1 8 := ⟨by kernel_rfl⟩
instance : TCell Try.prog 1 := ⟨by kernel_rfl⟩
instance : TZero Try.prog 1 [.nilFunc] := ⟨by kernel_rfl⟩
instance : TFn Try.prog 1 := ⟨by kernel_rfl⟩
instance : TSize Try.prog 2 1 := ⟨by kernel_rfl⟩
instance : TBytes Try.prog 2 8 := ⟨by kernel_rfl⟩
instance : TCell Try.prog 2 := ⟨by kernel_rfl⟩
instance : TZero Try.prog 2 [.int .i64 0] := ⟨by kernel_rfl⟩
instance : TInt Try.prog 2 .i64 := ⟨by kernel_rfl⟩
instance : TSize Try.prog 3 1 := ⟨by kernel_rfl⟩
instance : TBytes Try.prog 3 8 := ⟨by kernel_rfl⟩
instance : TCell Try.prog 3 := ⟨by kernel_rfl⟩
instance : TZero Try.prog 3 [.int .i64 0] := ⟨by kernel_rfl⟩
instance : TInt Try.prog 3 .i64 := ⟨by kernel_rfl⟩
instance : TSize Try.prog 4 1 := ⟨by kernel_rfl⟩
instance : TBytes Try.prog 4 1 := ⟨by kernel_rfl⟩
instance : TCell Try.prog 4 := ⟨by kernel_rfl⟩
instance : TZero Try.prog 4 [.bool false] := ⟨by kernel_rfl⟩
instance : TSize Try.prog 5 1 := ⟨by kernel_rfl⟩
instance : TBytes Try.prog 5 1 := ⟨by kernel_rfl⟩
instance : TCell Try.prog 5 := ⟨by kernel_rfl⟩
instance : TZero Try.prog 5 [.int .u8 0] := ⟨by kernel_rfl⟩
instance : TInt Try.prog 5 .u8 := ⟨by kernel_rfl⟩
instance : TSize Try.prog 6 1 := ⟨by kernel_rfl⟩
instance : TBytes Try.prog 6 1 := ⟨by kernel_rfl⟩
instance : TCell Try.prog 6 := ⟨by kernel_rfl⟩
instance : TZero Try.prog 6 [.int .u8 0] := ⟨by kernel_rfl⟩
instance : TInt Try.prog 6 .u8 := ⟨by kernel_rfl⟩
instance : TSize Try.prog 7 4 := ⟨by kernel_rfl⟩
instance : TBytes Try.prog 7 24 := ⟨by kernel_rfl⟩
instance : TAgg Try.prog 7 := ⟨by kernel_rfl⟩
instance : TZero Try.prog 7 [.int .i64 0, .int .i64 0, .bool false, .int .u8 0] := ⟨by kernel_rfl⟩
instance : FieldOff Try.prog 7 0 0 2 1 := ⟨by kernel_rfl⟩
instance : FieldOff Try.prog 7 1 1 3 1 := ⟨by kernel_rfl⟩
instance : FieldOff Try.prog 7 2 2 4 1 := ⟨by kernel_rfl⟩
instance : FieldOff Try.prog 7 3 3 6 1 := ⟨by kernel_rfl⟩
instance : TStructOk Try.prog 7 := ⟨by kernel_rfl⟩
instance : TStruct Try.prog 7 [(0, 1), (1, 1), (2, 1), (3, 1)] := ⟨by kernel_rfl⟩
instance : TSize Try.prog 8 4 := ⟨by kernel_rfl⟩
instance : TBytes Try.prog 8 24 := ⟨by kernel_rfl⟩
instance : TAgg Try.prog 8 := ⟨by kernel_rfl⟩
instance : TZero Try.prog 8 [.int .i64 0, .int .i64 0, .bool false, .int .u8 0] := ⟨by kernel_rfl⟩
instance : FieldOff Try.prog 8 0 0 2 1 := ⟨by kernel_rfl⟩
instance : FieldOff Try.prog 8 1 1 3 1 := ⟨by kernel_rfl⟩
instance : FieldOff Try.prog 8 2 2 4 1 := ⟨by kernel_rfl⟩
instance : FieldOff Try.prog 8 3 3 6 1 := ⟨by kernel_rfl⟩
instance : TStructOk Try.prog 8 := ⟨by kernel_rfl⟩
instance : TStruct Try.prog 8 [(0, 1), (1, 1), (2, 1), (3, 1)] := ⟨by kernel_rfl⟩
instance : TSize Try.prog 9 1 := ⟨by kernel_rfl⟩
instance : TBytes Try.prog 9 16 := ⟨by kernel_rfl⟩
instance : TCell Try.prog 9 := ⟨by kernel_rfl⟩
instance : TZero Try.prog 9 [.string ByteArray.empty] := ⟨by kernel_rfl⟩
instance : TStr Try.prog 9 := ⟨by kernel_rfl⟩
instance : TSize Try.prog 10 1 := ⟨by kernel_rfl⟩
instance : TBytes Try.prog 10 16 := ⟨by kernel_rfl⟩
instance : TCell Try.prog 10 := ⟨by kernel_rfl⟩
instance : TZero Try.prog 10 [.string ByteArray.empty] := ⟨by kernel_rfl⟩
instance : TStr Try.prog 10 := ⟨by kernel_rfl⟩
instance : TSize Try.prog 11 1 := ⟨by kernel_rfl⟩
instance : TBytes Try.prog 11 16 := ⟨by kernel_rfl⟩
instance : TCell Try.prog 11 := ⟨by kernel_rfl⟩
instance : TZero Try.prog 11 [.string ByteArray.empty] := ⟨by kernel_rfl⟩
instance : TStr Try.prog 11 := ⟨by kernel_rfl⟩
instance : TSize Try.prog 12 1 := ⟨by kernel_rfl⟩
instance : TBytes Try.prog 12 8 := ⟨by kernel_rfl⟩
instance : TCell Try.prog 12 := ⟨by kernel_rfl⟩
instance : TZero Try.prog 12 [.int .u64 0] := ⟨by kernel_rfl⟩
instance : TInt Try.prog 12 .u64 := ⟨by kernel_rfl⟩
instance : TSize Try.prog 13 2 := ⟨by kernel_rfl⟩
instance : TBytes Try.prog 13 24 := ⟨by kernel_rfl⟩
instance : TAgg Try.prog 13 := ⟨by kernel_rfl⟩
instance : TZero Try.prog 13 [.string ByteArray.empty, .int .u64 0] := ⟨by kernel_rfl⟩
instance : FieldOff Try.prog 13 0 0 9 1 := ⟨by kernel_rfl⟩
instance : FieldOff Try.prog 13 1 1 12 1 := ⟨by kernel_rfl⟩
instance : TStructOk Try.prog 13 := ⟨by kernel_rfl⟩
instance : TStruct Try.prog 13 [(0, 1), (1, 1)] := ⟨by kernel_rfl⟩
instance : TSize Try.prog 14 2 := ⟨by kernel_rfl⟩
instance : TBytes Try.prog 14 24 := ⟨by kernel_rfl⟩
instance : TAgg Try.prog 14 := ⟨by kernel_rfl⟩
instance : TZero Try.prog 14 [.string ByteArray.empty, .int .u64 0] := ⟨by kernel_rfl⟩
instance : FieldOff Try.prog 14 0 0 9 1 := ⟨by kernel_rfl⟩
instance : FieldOff Try.prog 14 1 1 12 1 := ⟨by kernel_rfl⟩
instance : TStructOk Try.prog 14 := ⟨by kernel_rfl⟩
instance : TStruct Try.prog 14 [(0, 1), (1, 1)] := ⟨by kernel_rfl⟩
instance : TSize Try.prog 15 1 := ⟨by kernel_rfl⟩
instance : TBytes Try.prog 15 8 := ⟨by kernel_rfl⟩
instance : TCell Try.prog 15 := ⟨by kernel_rfl⟩
instance : TZero Try.prog 15 [.pointer none] := ⟨by kernel_rfl⟩
instance : TPtr Try.prog 15 152 := ⟨by kernel_rfl⟩
instance : TSize Try.prog 16 1 := ⟨by kernel_rfl⟩
instance : TBytes Try.prog 16 8 := ⟨by kernel_rfl⟩
instance : TCell Try.prog 16 := ⟨by kernel_rfl⟩
instance : TZero Try.prog 16 [.pointer none] := ⟨by kernel_rfl⟩
instance : TPtr Try.prog 16 155 := ⟨by kernel_rfl⟩
instance : TSize Try.prog 17 1 := ⟨by kernel_rfl⟩
instance : TBytes Try.prog 17 8 := ⟨by kernel_rfl⟩
instance : TCell Try.prog 17 := ⟨by kernel_rfl⟩
instance : TZero Try.prog 17 [.pointer none] := ⟨by kernel_rfl⟩
instance : TPtr Try.prog 17 163 := ⟨by kernel_rfl⟩
instance : TSize Try.prog 18 1 := ⟨by kernel_rfl⟩
instance : TBytes Try.prog 18 8 := ⟨by kernel_rfl⟩
instance : TAgg Try.prog 18 := ⟨by kernel_rfl⟩
instance : TZero Try.prog 18 [.pointer none] := ⟨by kernel_rfl⟩
instance : FieldOff Try.prog 18 0 0 17 1 := ⟨by kernel_rfl⟩
instance : TStructOk Try.prog 18 := ⟨by kernel_rfl⟩
instance : TStruct Try.prog 18 [(0, 1)] := ⟨by kernel_rfl⟩
instance : TSize Try.prog 19 1 := ⟨by kernel_rfl⟩
instance : TBytes Try.prog 19 8 := ⟨by kernel_rfl⟩
instance : TAgg Try.prog 19 := ⟨by kernel_rfl⟩
instance : TZero Try.prog 19 [.pointer none] := ⟨by kernel_rfl⟩
instance : FieldOff Try.prog 19 0 0 17 1 := ⟨by kernel_rfl⟩
instance : TStructOk Try.prog 19 := ⟨by kernel_rfl⟩
instance : TStruct Try.prog 19 [(0, 1)] := ⟨by kernel_rfl⟩
instance : TSize Try.prog 20 1 := ⟨by kernel_rfl⟩
instance : TBytes Try.prog 20 16 := ⟨by kernel_rfl⟩
instance : TCell Try.prog 20 := ⟨by kernel_rfl⟩
instance : TZero Try.prog 20 [.nilIface] := ⟨by kernel_rfl⟩
instance : TSize Try.prog 21 1 := ⟨by kernel_rfl⟩
instance : TBytes Try.prog 21 4 := ⟨by kernel_rfl⟩
instance : TCell Try.prog 21 := ⟨by kernel_rfl⟩
instance : TZero Try.prog 21 [.int .i32 0] := ⟨by kernel_rfl⟩
instance : TInt Try.prog 21 .i32 := ⟨by kernel_rfl⟩
instance : TSize Try.prog 22 1 := ⟨by kernel_rfl⟩
instance : TBytes Try.prog 22 24 := ⟨by kernel_rfl⟩
instance : TCell Try.prog 22 := ⟨by kernel_rfl⟩
instance : TZero Try.prog 22 [.slice none 0 0] := ⟨by kernel_rfl⟩
instance : TSl Try.prog 22 35 := ⟨by kernel_rfl⟩
instance : TSize Try.prog 23 1 := ⟨by kernel_rfl⟩
instance : TBytes Try.prog 23 8 := ⟨by kernel_rfl⟩
instance : TCell Try.prog 23 := ⟨by kernel_rfl⟩
instance : TZero Try.prog 23 [.nilFunc] := ⟨by kernel_rfl⟩
instance : TFn Try.prog 23 := ⟨by kernel_rfl⟩
instance : TSize Try.prog 24 1 := ⟨by kernel_rfl⟩
instance : TBytes Try.prog 24 8 := ⟨by kernel_rfl⟩
instance : TCell Try.prog 24 := ⟨by kernel_rfl⟩
instance : TZero Try.prog 24 [.pointer none] := ⟨by kernel_rfl⟩
instance : TPtr Try.prog 24 77 := ⟨by kernel_rfl⟩
instance : TSize Try.prog 25 1 := ⟨by kernel_rfl⟩
instance : TBytes Try.prog 25 8 := ⟨by kernel_rfl⟩
instance : TCell Try.prog 25 := ⟨by kernel_rfl⟩
instance : TZero Try.prog 25 [.int .i64 0] := ⟨by kernel_rfl⟩
instance : TInt Try.prog 25 .i64 := ⟨by kernel_rfl⟩
instance : TSize Try.prog 27 1 := ⟨by kernel_rfl⟩
instance : TBytes Try.prog 27 8 := ⟨by kernel_rfl⟩
instance : TCell Try.prog 27 := ⟨by kernel_rfl⟩
instance : TZero Try.prog 27 [.nilFunc] := ⟨by kernel_rfl⟩
instance : TFn Try.prog 27 := ⟨by kernel_rfl⟩
instance : TSize Try.prog 28 1 := ⟨by kernel_rfl⟩
instance : TBytes Try.prog 28 8 := ⟨by kernel_rfl⟩
instance : TCell Try.prog 28 := ⟨by kernel_rfl⟩
instance : TZero Try.prog 28 [.pointer none] := ⟨by kernel_rfl⟩
instance : TPtr Try.prog 28 95 := ⟨by kernel_rfl⟩
instance : TSize Try.prog 30 1 := ⟨by kernel_rfl⟩
instance : TBytes Try.prog 30 8 := ⟨by kernel_rfl⟩
instance : TCell Try.prog 30 := ⟨by kernel_rfl⟩
instance : TZero Try.prog 30 [.nilFunc] := ⟨by kernel_rfl⟩
instance : TFn Try.prog 30 := ⟨by kernel_rfl⟩
instance : TSize Try.prog 31 1 := ⟨by kernel_rfl⟩
instance : TBytes Try.prog 31 24 := ⟨by kernel_rfl⟩
instance : TCell Try.prog 31 := ⟨by kernel_rfl⟩
instance : TZero Try.prog 31 [.slice none 0 0] := ⟨by kernel_rfl⟩
instance : TSl Try.prog 31 33 := ⟨by kernel_rfl⟩
instance : TSize Try.prog 32 3 := ⟨by kernel_rfl⟩
instance : TBytes Try.prog 32 24 := ⟨by kernel_rfl⟩
instance : TAgg Try.prog 32 := ⟨by kernel_rfl⟩
instance : TZero Try.prog 32 [.int .i64 0, .int .i64 0, .bool false] := ⟨by kernel_rfl⟩
instance : FieldOff Try.prog 32 0 0 3 1 := ⟨by kernel_rfl⟩
instance : FieldOff Try.prog 32 1 1 3 1 := ⟨by kernel_rfl⟩
instance : FieldOff Try.prog 32 2 2 4 1 := ⟨by kernel_rfl⟩
instance : TStructOk Try.prog 32 := ⟨by kernel_rfl⟩
instance : TStruct Try.prog 32 [(0, 1), (1, 1), (2, 1)] := ⟨by kernel_rfl⟩
instance : TEq Try.prog 32 [.i .i64, .i .i64, .b] := ⟨by kernel_rfl, by kernel_rfl⟩
instance : TSize Try.prog 33 3 := ⟨by kernel_rfl⟩
instance : TBytes Try.prog 33 24 := ⟨by kernel_rfl⟩
instance : TAgg Try.prog 33 := ⟨by kernel_rfl⟩
instance : TZero Try.prog 33 [.int .i64 0, .int .i64 0, .bool false] := ⟨by kernel_rfl⟩
instance : FieldOff Try.prog 33 0 0 3 1 := ⟨by kernel_rfl⟩
instance : FieldOff Try.prog 33 1 1 3 1 := ⟨by kernel_rfl⟩
instance : FieldOff Try.prog 33 2 2 4 1 := ⟨by kernel_rfl⟩
instance : TStructOk Try.prog 33 := ⟨by kernel_rfl⟩
instance : TStruct Try.prog 33 [(0, 1), (1, 1), (2, 1)] := ⟨by kernel_rfl⟩
instance : TEq Try.prog 33 [.i .i64, .i .i64, .b] := ⟨by kernel_rfl, by kernel_rfl⟩
instance : TSize Try.prog 34 3 := ⟨by kernel_rfl⟩
instance : TBytes Try.prog 34 24 := ⟨by kernel_rfl⟩
instance : TAgg Try.prog 34 := ⟨by kernel_rfl⟩
instance : TZero Try.prog 34 [.int .i64 0, .int .i64 0, .int .i64 0] := ⟨by kernel_rfl⟩
instance : FieldOff Try.prog 34 0 0 3 1 := ⟨by kernel_rfl⟩
instance : FieldOff Try.prog 34 1 1 3 1 := ⟨by kernel_rfl⟩
instance : FieldOff Try.prog 34 2 2 3 1 := ⟨by kernel_rfl⟩
instance : TStructOk Try.prog 34 := ⟨by kernel_rfl⟩
instance : TStruct Try.prog 34 [(0, 1), (1, 1), (2, 1)] := ⟨by kernel_rfl⟩
instance : TEq Try.prog 34 [.i .i64, .i .i64, .i .i64] := ⟨by kernel_rfl, by kernel_rfl⟩
instance : TSize Try.prog 35 3 := ⟨by kernel_rfl⟩
instance : TBytes Try.prog 35 24 := ⟨by kernel_rfl⟩
instance : TAgg Try.prog 35 := ⟨by kernel_rfl⟩
instance : TZero Try.prog 35 [.int .i64 0, .int .i64 0, .int .i64 0] := ⟨by kernel_rfl⟩
instance : FieldOff Try.prog 35 0 0 3 1 := ⟨by kernel_rfl⟩
instance : FieldOff Try.prog 35 1 1 3 1 := ⟨by kernel_rfl⟩
instance : FieldOff Try.prog 35 2 2 3 1 := ⟨by kernel_rfl⟩
instance : TStructOk Try.prog 35 := ⟨by kernel_rfl⟩
instance : TStruct Try.prog 35 [(0, 1), (1, 1), (2, 1)] := ⟨by kernel_rfl⟩
instance : TEq Try.prog 35 [.i .i64, .i .i64, .i .i64] := ⟨by kernel_rfl, by kernel_rfl⟩
instance : TSize Try.prog 36 1 := ⟨by kernel_rfl⟩
instance : TBytes Try.prog 36 8 := ⟨by kernel_rfl⟩
instance : TCell Try.prog 36 := ⟨by kernel_rfl⟩
instance : TZero Try.prog 36 [.int .u64 0] := ⟨by kernel_rfl⟩
instance : TInt Try.prog 36 .u64 := ⟨by kernel_rfl⟩
instance : TSize Try.prog 37 1 := ⟨by kernel_rfl⟩
instance : TBytes Try.prog 37 24 := ⟨by kernel_rfl⟩
instance : TCell Try.prog 37 := ⟨by kernel_rfl⟩
instance : TZero Try.prog 37 [.slice none 0 0] := ⟨by kernel_rfl⟩
instance : TSl Try.prog 37 40 := ⟨by kernel_rfl⟩
instance : TSize Try.prog 38 1 := ⟨by kernel_rfl⟩
instance : TBytes Try.prog 38 8 := ⟨by kernel_rfl⟩
instance : TCell Try.prog 38 := ⟨by kernel_rfl⟩
instance : TZero Try.prog 38 [.nilFunc] := ⟨by kernel_rfl⟩
instance : TFn Try.prog 38 := ⟨by kernel_rfl⟩
instance : TSize Try.prog 39 3 := ⟨by kernel_rfl⟩
instance : TBytes Try.prog 39 24 := ⟨by kernel_rfl⟩
instance : TAgg Try.prog 39 := ⟨by kernel_rfl⟩
instance : TZero Try.prog 39 [.int .i64 0, .int .i64 0, .bool false] := ⟨by kernel_rfl⟩
instance : FieldOff Try.prog 39 0 0 3 1 := ⟨by kernel_rfl⟩
instance : FieldOff Try.prog 39 1 1 3 1 := ⟨by kernel_rfl⟩
instance : FieldOff Try.prog 39 2 2 4 1 := ⟨by kernel_rfl⟩
instance : TStructOk Try.prog 39 := ⟨by kernel_rfl⟩
instance : TStruct Try.prog 39 [(0, 1), (1, 1), (2, 1)] := ⟨by kernel_rfl⟩
instance : TEq Try.prog 39 [.i .i64, .i .i64, .b] := ⟨by kernel_rfl, by kernel_rfl⟩
instance : TSize Try.prog 40 3 := ⟨by kernel_rfl⟩
instance : TBytes Try.prog 40 24 := ⟨by kernel_rfl⟩
instance : TAgg Try.prog 40 := ⟨by kernel_rfl⟩
instance : TZero Try.prog 40 [.int .i64 0, .int .i64 0, .bool false] := ⟨by kernel_rfl⟩
instance : FieldOff Try.prog 40 0 0 3 1 := ⟨by kernel_rfl⟩
instance : FieldOff Try.prog 40 1 1 3 1 := ⟨by kernel_rfl⟩
instance : FieldOff Try.prog 40 2 2 4 1 := ⟨by kernel_rfl⟩
instance : TStructOk Try.prog 40 := ⟨by kernel_rfl⟩
instance : TStruct Try.prog 40 [(0, 1), (1, 1), (2, 1)] := ⟨by kernel_rfl⟩
instance : TEq Try.prog 40 [.i .i64, .i .i64, .b] := ⟨by kernel_rfl, by kernel_rfl⟩
instance : TSize Try.prog 41 1 := ⟨by kernel_rfl⟩
instance : TBytes Try.prog 41 8 := ⟨by kernel_rfl⟩
instance : TCell Try.prog 41 := ⟨by kernel_rfl⟩
instance : TZero Try.prog 41 [.nilFunc] := ⟨by kernel_rfl⟩
instance : TFn Try.prog 41 := ⟨by kernel_rfl⟩
instance : TSize Try.prog 42 1 := ⟨by kernel_rfl⟩
instance : TBytes Try.prog 42 24 := ⟨by kernel_rfl⟩
instance : TCell Try.prog 42 := ⟨by kernel_rfl⟩
instance : TZero Try.prog 42 [.slice none 0 0] := ⟨by kernel_rfl⟩
instance : TSl Try.prog 42 52 := ⟨by kernel_rfl⟩
instance : TSize Try.prog 43 1 := ⟨by kernel_rfl⟩
instance : TBytes Try.prog 43 8 := ⟨by kernel_rfl⟩
instance : TCell Try.prog 43 := ⟨by kernel_rfl⟩
instance : TZero Try.prog 43 [.nilFunc] := ⟨by kernel_rfl⟩
instance : TFn Try.prog 43 := ⟨by kernel_rfl⟩
instance : TSize Try.prog 44 1 := ⟨by kernel_rfl⟩
instance : TBytes Try.prog 44 24 := ⟨by kernel_rfl⟩
instance : TCell Try.prog 44 := ⟨by kernel_rfl⟩
instance : TZero Try.prog 44 [.slice none 0 0] := ⟨by kernel_rfl⟩
instance : TSl Try.prog 44 165 := ⟨by kernel_rfl⟩
instance : TSize Try.prog 45 2 := ⟨by kernel_rfl⟩
instance : TBytes Try.prog 45 16 := ⟨by kernel_rfl⟩
instance : TAgg Try.prog 45 := ⟨by kernel_rfl⟩
instance : TZero Try.prog 45 [.int .i64 0, .int .i64 0] := ⟨by kernel_rfl⟩
instance : FieldOff Try.prog 45 0 0 3 1 := ⟨by kernel_rfl⟩
instance : FieldOff Try.prog 45 1 1 3 1 := ⟨by kernel_rfl⟩
instance : TStructOk Try.prog 45 := ⟨by kernel_rfl⟩
instance : TStruct Try.prog 45 [(0, 1), (1, 1)] := ⟨by kernel_rfl⟩
instance : TEq Try.prog 45 [.i .i64, .i .i64] := ⟨by kernel_rfl, by kernel_rfl⟩
instance : TSize Try.prog 46 2 := ⟨by kernel_rfl⟩
instance : TBytes Try.prog 46 16 := ⟨by kernel_rfl⟩
instance : TAgg Try.prog 46 := ⟨by kernel_rfl⟩
instance : TZero Try.prog 46 [.int .i64 0, .int .i64 0] := ⟨by kernel_rfl⟩
instance : FieldOff Try.prog 46 0 0 3 1 := ⟨by kernel_rfl⟩
instance : FieldOff Try.prog 46 1 1 3 1 := ⟨by kernel_rfl⟩
instance : TStructOk Try.prog 46 := ⟨by kernel_rfl⟩
instance : TStruct Try.prog 46 [(0, 1), (1, 1)] := ⟨by kernel_rfl⟩
instance : TEq Try.prog 46 [.i .i64, .i .i64] := ⟨by kernel_rfl, by kernel_rfl⟩
instance : TSize Try.prog 47 1 := ⟨by kernel_rfl⟩
instance : TBytes Try.prog 47 24 := ⟨by kernel_rfl⟩
instance : TCell Try.prog 47 := ⟨by kernel_rfl⟩
instance : TZero Try.prog 47 [.slice none 0 0] := ⟨by kernel_rfl⟩
instance : TSl Try.prog 47 167 := ⟨by kernel_rfl⟩
instance : TSize Try.prog 48 1 := ⟨by kernel_rfl⟩
instance : TBytes Try.prog 48 24 := ⟨by kernel_rfl⟩
instance : TCell Try.prog 48 := ⟨by kernel_rfl⟩
instance : TZero Try.prog 48 [.slice none 0 0] := ⟨by kernel_rfl⟩
instance : TSl Try.prog 48 169 := ⟨by kernel_rfl⟩
instance : TSize Try.prog 49 4 := ⟨by kernel_rfl⟩
instance : TBytes Try.prog 49 40 := ⟨by kernel_rfl⟩
instance : TAgg Try.prog 49 := ⟨by kernel_rfl⟩
instance : TZero Try.prog 49 [.int .i64 0, .int .i64 0, .bool false, .string ByteArray.empty] := ⟨by kernel_rfl⟩
instance : FieldOff Try.prog 49 0 0 46 2 := ⟨by kernel_rfl⟩
instance : FieldOff Try.prog 49 1 2 4 1 := ⟨by kernel_rfl⟩
instance : FieldOff Try.prog 49 2 3 9 1 := ⟨by kernel_rfl⟩
instance : TStructOk Try.prog 49 := ⟨by kernel_rfl⟩
instance : TStruct Try.prog 49 [(0, 2), (2, 1), (3, 1)] := ⟨by kernel_rfl⟩
instance : TEq Try.prog 49 [.i .i64, .i .i64, .b, .s] := ⟨by kernel_rfl, by kernel_rfl⟩
instance : TSize Try.prog 50 4 := ⟨by kernel_rfl⟩
instance : TBytes Try.prog 50 40 := ⟨by kernel_rfl⟩
instance : TAgg Try.prog 50 := ⟨by kernel_rfl⟩
instance : TZero Try.prog 50 [.int .i64 0, .int .i64 0, .bool false, .string ByteArray.empty] := ⟨by kernel_rfl⟩
instance : FieldOff Try.prog 50 0 0 46 2 := ⟨by kernel_rfl⟩
instance : FieldOff Try.prog 50 1 2 4 1 := ⟨by kernel_rfl⟩
instance : FieldOff Try.prog 50 2 3 9 1 := ⟨by kernel_rfl⟩
instance : TStructOk Try.prog 50 := ⟨by kernel_rfl⟩
instance : TStruct Try.prog 50 [(0, 2), (2, 1), (3, 1)] := ⟨by kernel_rfl⟩
instance : TEq Try.prog 50 [.i .i64, .i .i64, .b, .s] := ⟨by kernel_rfl, by kernel_rfl⟩
instance : TSize Try.prog 51 26 := ⟨by kernel_rfl⟩
instance : TBytes Try.prog 51 296 := ⟨by kernel_rfl⟩
instance : TAgg Try.prog 51 := ⟨by kernel_rfl⟩
instance : TZero Try.prog 51 [.int .i64 0, .int .i64 0, .int .i64 0, .slice none 0 0, .int .i64 0, .int .i64 0, .int .i64 0, .int .i64 0, .slice none 0 0, .slice none 0 0, .slice none 0 0, .int .i64 0, .int .i64 0, .bool false, .int .i64 0, .int .i64 0, .string ByteArray.empty, .bool false, .string ByteArray.empty, .int .i64 0, .int .i64 0, .int .i64 0, .int .i64 0, .int .i64 0, .bool false, .string ByteArray.empty] := ⟨by kernel_rfl⟩
instance : FieldOff Try.prog 51 0 0 3 1 := ⟨by kernel_rfl⟩
instance : FieldOff Try.prog 51 1 1 3 1 := ⟨by kernel_rfl⟩
instance : FieldOff Try.prog 51 2 2 3 1 := ⟨by kernel_rfl⟩
instance : FieldOff Try.prog 51 3 3 44 1 := ⟨by kernel_rfl⟩
instance : FieldOff Try.prog 51 4 4 46 2 := ⟨by kernel_rfl⟩
instance : FieldOff Try.prog 51 5 6 3 1 := ⟨by kernel_rfl⟩
instance : FieldOff Try.prog 51 6 7 3 1 := ⟨by kernel_rfl⟩
instance : FieldOff Try.prog 51 7 8 47 1 := ⟨by kernel_rfl⟩
instance : FieldOff Try.prog 51 8 9 48 1 := ⟨by kernel_rfl⟩
instance : FieldOff Try.prog 51 9 10 37 1 := ⟨by kernel_rfl⟩
instance : FieldOff Try.prog 51 10 11 46 2 := ⟨by kernel_rfl⟩
instance : FieldOff Try.prog 51 11 13 4 1 := ⟨by kernel_rfl⟩
instance : FieldOff Try.prog 51 12 14 3 1 := ⟨by kernel_rfl⟩
instance : FieldOff Try.prog 51 13 15 3 1 := ⟨by kernel_rfl⟩
instance : FieldOff Try.prog 51 14 16 9 1 := ⟨by kernel_rfl⟩
instance : FieldOff Try.prog 51 15 17 4 1 := ⟨by kernel_rfl⟩
instance : FieldOff Try.prog 51 16 18 9 1 := ⟨by kernel_rfl⟩
instance : FieldOff Try.prog 51 17 19 46 2 := ⟨by kernel_rfl⟩
instance : FieldOff Try.prog 51 18 21 25 1 := ⟨by kernel_rfl⟩
instance : FieldOff Try.prog 51 19 22 50 4 := ⟨by kernel_rfl⟩
instance : TStructOk Try.prog 51 := ⟨by kernel_rfl⟩
instance : TStruct Try.prog 51 [(0, 1), (1, 1), (2, 1), (3, 1), (4, 2), (6, 1), (7, 1), (8, 1), (9, 1), (10, 1), (11, 2), (13, 1), (14, 1), (15, 1), (16, 1), (17, 1), (18, 1), (19, 2), (21, 1), (22, 4)] := ⟨by kernel_rfl⟩
instance : TSize Try.prog 52 26 := ⟨by kernel_rfl⟩
instance : TBytes Try.prog 52 296 := ⟨by kernel_rfl⟩
instance : TAgg Try.prog 52 := ⟨by kernel_rfl⟩
instance : TZero Try.prog 52 [.int .i64 0, .int .i64 0, .int .i64 0, .slice none 0 0, .int .i64 0, .int .i64 0, .int .i64 0, .int .i64 0, .slice none 0 0, .slice none 0 0, .slice none 0 0, .int .i64 0, .int .i64 0, .bool false, .int .i64 0, .int .i64 0, .string ByteArray.empty, .bool false, .string ByteArray.empty, .int .i64 0, .int .i64 0, .int .i64 0, .int .i64 0, .int .i64 0, .bool false, .string ByteArray.empty] := ⟨by kernel_rfl⟩
instance : FieldOff Try.prog 52 0 0 3 1 := ⟨by kernel_rfl⟩
instance : FieldOff Try.prog 52 1 1 3 1 := ⟨by kernel_rfl⟩
instance : FieldOff Try.prog 52 2 2 3 1 := ⟨by kernel_rfl⟩
instance : FieldOff Try.prog 52 3 3 44 1 := ⟨by kernel_rfl⟩
instance : FieldOff Try.prog 52 4 4 46 2 := ⟨by kernel_rfl⟩
instance : FieldOff Try.prog 52 5 6 3 1 := ⟨by kernel_rfl⟩
instance : FieldOff Try.prog 52 6 7 3 1 := ⟨by kernel_rfl⟩
instance : FieldOff Try.prog 52 7 8 47 1 := ⟨by kernel_rfl⟩
instance : FieldOff Try.prog 52 8 9 48 1 := ⟨by kernel_rfl⟩
instance : FieldOff Try.prog 52 9 10 37 1 := ⟨by kernel_rfl⟩
instance : FieldOff Try.prog 52 10 11 46 2 := ⟨by kernel_rfl⟩
instance : FieldOff Try.prog 52 11 13 4 1 := ⟨by kernel_rfl⟩
instance : FieldOff Try.prog 52 12 14 3 1 := ⟨by kernel_rfl⟩
instance : FieldOff Try.prog 52 13 15 3 1 := ⟨by kernel_rfl⟩
instance : FieldOff Try.prog 52 14 16 9 1 := ⟨by kernel_rfl⟩
instance : FieldOff Try.prog 52 15 17 4 1 := ⟨by kernel_rfl⟩
instance : FieldOff Try.prog 52 16 18 9 1 := ⟨by kernel_rfl⟩
instance : FieldOff Try.prog 52 17 19 46 2 := ⟨by kernel_rfl⟩
instance : FieldOff Try.prog 52 18 21 25 1 := ⟨by kernel_rfl⟩
instance : FieldOff Try.prog 52 19 22 50 4 := ⟨by kernel_rfl⟩
instance : TStructOk Try.prog 52 := ⟨by kernel_rfl⟩
instance : TStruct Try.prog 52 [(0, 1), (1, 1), (2, 1), (3, 1), (4, 2), (6, 1), (7, 1), (8, 1), (9, 1), (10, 1), (11, 2), (13, 1), (14, 1), (15, 1), (16, 1), (17, 1), (18, 1), (19, 2), (21, 1), (22, 4)] := ⟨by kernel_rfl⟩
instance : TSize Try.prog 53 1 := ⟨by kernel_rfl⟩
instance : TBytes Try.prog 53 8 := ⟨by kernel_rfl⟩
instance : TCell Try.prog 53 := ⟨by kernel_rfl⟩
instance : TZero Try.prog 53 [.nilFunc] := ⟨by kernel_rfl⟩
instance : TFn Try.prog 53 := ⟨by kernel_rfl⟩
instance : TSize Try.prog 54 1 := ⟨by kernel_rfl⟩
instance : TBytes Try.prog 54 8 := ⟨by kernel_rfl⟩
instance : TCell Try.prog 54 := ⟨by kernel_rfl⟩
instance : TZero Try.prog 54 [.nilFunc] := ⟨by kernel_rfl⟩
instance : TFn Try.prog 54 := ⟨by kernel_rfl⟩
instance : TSize Try.prog 55 1 := ⟨by kernel_rfl⟩
instance : TBytes Try.prog 55 24 := ⟨by kernel_rfl⟩
instance : TCell Try.prog 55 := ⟨by kernel_rfl⟩
instance : TZero Try.prog 55 [.slice none 0 0] := ⟨by kernel_rfl⟩
instance : TSl Try.prog 55 59 := ⟨by kernel_rfl⟩
instance : TSize Try.prog 56 26 := ⟨by kernel_rfl⟩
instance : TBytes Try.prog 56 296 := ⟨by kernel_rfl⟩
instance : TAgg Try.prog 56 := ⟨by kernel_rfl⟩
instance : TZero Try.prog 56 [.int .i64 0, .int .i64 0, .int .i64 0, .slice none 0 0, .int .i64 0, .int .i64 0, .int .i64 0, .int .i64 0, .slice none 0 0, .slice none 0 0, .slice none 0 0, .int .i64 0, .int .i64 0, .bool false, .int .i64 0, .int .i64 0, .string ByteArray.empty, .bool false, .string ByteArray.empty, .int .i64 0, .int .i64 0, .int .i64 0, .int .i64 0, .int .i64 0, .bool false, .string ByteArray.empty] := ⟨by kernel_rfl⟩
instance : FieldOff Try.prog 56 0 0 3 1 := ⟨by kernel_rfl⟩
instance : FieldOff Try.prog 56 1 1 3 1 := ⟨by kernel_rfl⟩
instance : FieldOff Try.prog 56 2 2 3 1 := ⟨by kernel_rfl⟩
instance : FieldOff Try.prog 56 3 3 44 1 := ⟨by kernel_rfl⟩
instance : FieldOff Try.prog 56 4 4 46 2 := ⟨by kernel_rfl⟩
instance : FieldOff Try.prog 56 5 6 3 1 := ⟨by kernel_rfl⟩
instance : FieldOff Try.prog 56 6 7 3 1 := ⟨by kernel_rfl⟩
instance : FieldOff Try.prog 56 7 8 47 1 := ⟨by kernel_rfl⟩
instance : FieldOff Try.prog 56 8 9 48 1 := ⟨by kernel_rfl⟩
instance : FieldOff Try.prog 56 9 10 37 1 := ⟨by kernel_rfl⟩
instance : FieldOff Try.prog 56 10 11 46 2 := ⟨by kernel_rfl⟩
instance : FieldOff Try.prog 56 11 13 4 1 := ⟨by kernel_rfl⟩
instance : FieldOff Try.prog 56 12 14 3 1 := ⟨by kernel_rfl⟩
instance : FieldOff Try.prog 56 13 15 3 1 := ⟨by kernel_rfl⟩
instance : FieldOff Try.prog 56 14 16 9 1 := ⟨by kernel_rfl⟩
instance : FieldOff Try.prog 56 15 17 4 1 := ⟨by kernel_rfl⟩
instance : FieldOff Try.prog 56 16 18 9 1 := ⟨by kernel_rfl⟩
instance : FieldOff Try.prog 56 17 19 46 2 := ⟨by kernel_rfl⟩
instance : FieldOff Try.prog 56 18 21 25 1 := ⟨by kernel_rfl⟩
instance : FieldOff Try.prog 56 19 22 50 4 := ⟨by kernel_rfl⟩
instance : TStructOk Try.prog 56 := ⟨by kernel_rfl⟩
instance : TStruct Try.prog 56 [(0, 1), (1, 1), (2, 1), (3, 1), (4, 2), (6, 1), (7, 1), (8, 1), (9, 1), (10, 1), (11, 2), (13, 1), (14, 1), (15, 1), (16, 1), (17, 1), (18, 1), (19, 2), (21, 1), (22, 4)] := ⟨by kernel_rfl⟩
instance : TSize Try.prog 57 1 := ⟨by kernel_rfl⟩
instance : TBytes Try.prog 57 24 := ⟨by kernel_rfl⟩
instance : TCell Try.prog 57 := ⟨by kernel_rfl⟩
instance : TZero Try.prog 57 [.slice none 0 0] := ⟨by kernel_rfl⟩
instance : TSl Try.prog 57 5 := ⟨by kernel_rfl⟩
instance : TSize Try.prog 58 31 := ⟨by kernel_rfl⟩
instance : TBytes Try.prog 58 352 := ⟨by kernel_rfl⟩
instance : TAgg Try.prog 58 := ⟨by kernel_rfl⟩
instance : TZero Try.prog 58 [.int .i64 0, .int .i64 0, .int .i64 0, .int .i64 0, .int .i64 0, .int .i64 0, .int .i64 0, .slice none 0 0, .int .i64 0, .int .i64 0, .int .i64 0, .int .i64 0, .slice none 0 0, .slice none 0 0, .slice none 0 0, .int .i64 0, .int .i64 0, .bool false, .int .i64 0, .int .i64 0, .string ByteArray.empty, .bool false, .string ByteArray.empty, .int .i64 0, .int .i64 0, .int .i64 0, .int .i64 0, .int .i64 0, .bool false, .string ByteArray.empty, .slice none 0 0] := ⟨by kernel_rfl⟩
instance : FieldOff Try.prog 58 0 0 3 1 := ⟨by kernel_rfl⟩
instance : FieldOff Try.prog 58 1 1 3 1 := ⟨by kernel_rfl⟩
instance : FieldOff Try.prog 58 2 2 3 1 := ⟨by kernel_rfl⟩
instance : FieldOff Try.prog 58 3 3 3 1 := ⟨by kernel_rfl⟩
instance : FieldOff Try.prog 58 4 4 56 26 := ⟨by kernel_rfl⟩
instance : FieldOff Try.prog 58 5 30 57 1 := ⟨by kernel_rfl⟩
instance : TStructOk Try.prog 58 := ⟨by kernel_rfl⟩
instance : TStruct Try.prog 58 [(0, 1), (1, 1), (2, 1), (3, 1), (4, 26), (30, 1)] := ⟨by kernel_rfl⟩
instance : TSize Try.prog 59 31 := ⟨by kernel_rfl⟩
instance : TBytes Try.prog 59 352 := ⟨by kernel_rfl⟩
instance : TAgg Try.prog 59 := ⟨by kernel_rfl⟩
instance : TZero Try.prog 59 [.int .i64 0, .int .i64 0, .int .i64 0, .int .i64 0, .int .i64 0, .int .i64 0, .int .i64 0, .slice none 0 0, .int .i64 0, .int .i64 0, .int .i64 0, .int .i64 0, .slice none 0 0, .slice none 0 0, .slice none 0 0, .int .i64 0, .int .i64 0, .bool false, .int .i64 0, .int .i64 0, .string ByteArray.empty, .bool false, .string ByteArray.empty, .int .i64 0, .int .i64 0, .int .i64 0, .int .i64 0, .int .i64 0, .bool false, .string ByteArray.empty, .slice none 0 0] := ⟨by kernel_rfl⟩
instance : FieldOff Try.prog 59 0 0 3 1 := ⟨by kernel_rfl⟩
instance : FieldOff Try.prog 59 1 1 3 1 := ⟨by kernel_rfl⟩
instance : FieldOff Try.prog 59 2 2 3 1 := ⟨by kernel_rfl⟩
instance : FieldOff Try.prog 59 3 3 3 1 := ⟨by kernel_rfl⟩
instance : FieldOff Try.prog 59 4 4 56 26 := ⟨by kernel_rfl⟩
instance : FieldOff Try.prog 59 5 30 57 1 := ⟨by kernel_rfl⟩
instance : TStructOk Try.prog 59 := ⟨by kernel_rfl⟩
instance : TStruct Try.prog 59 [(0, 1), (1, 1), (2, 1), (3, 1), (4, 26), (30, 1)] := ⟨by kernel_rfl⟩
instance : TSize Try.prog 60 1 := ⟨by kernel_rfl⟩
instance : TBytes Try.prog 60 8 := ⟨by kernel_rfl⟩
instance : TCell Try.prog 60 := ⟨by kernel_rfl⟩
instance : TZero Try.prog 60 [.nilFunc] := ⟨by kernel_rfl⟩
instance : TFn Try.prog 60 := ⟨by kernel_rfl⟩
instance : TSize Try.prog 61 2 := ⟨by kernel_rfl⟩
instance : TBytes Try.prog 61 16 := ⟨by kernel_rfl⟩
instance : TAgg Try.prog 61 := ⟨by kernel_rfl⟩
instance : TZero Try.prog 61 [.int .i64 0, .int .i64 0] := ⟨by kernel_rfl⟩
instance : FieldOff Try.prog 61 0 0 3 1 := ⟨by kernel_rfl⟩
instance : FieldOff Try.prog 61 1 1 3 1 := ⟨by kernel_rfl⟩
instance : TStructOk Try.prog 61 := ⟨by kernel_rfl⟩
instance : TStruct Try.prog 61 [(0, 1), (1, 1)] := ⟨by kernel_rfl⟩
instance : TEq Try.prog 61 [.i .i64, .i .i64] := ⟨by kernel_rfl, by kernel_rfl⟩
instance : TSize Try.prog 62 2 := ⟨by kernel_rfl⟩
instance : TBytes Try.prog 62 16 := ⟨by kernel_rfl⟩
instance : TAgg Try.prog 62 := ⟨by kernel_rfl⟩
instance : TZero Try.prog 62 [.int .i64 0, .int .i64 0] := ⟨by kernel_rfl⟩
instance : FieldOff Try.prog 62 0 0 3 1 := ⟨by kernel_rfl⟩
instance : FieldOff Try.prog 62 1 1 3 1 := ⟨by kernel_rfl⟩
instance : TStructOk Try.prog 62 := ⟨by kernel_rfl⟩
instance : TStruct Try.prog 62 [(0, 1), (1, 1)] := ⟨by kernel_rfl⟩
instance : TEq Try.prog 62 [.i .i64, .i .i64] := ⟨by kernel_rfl, by kernel_rfl⟩
instance : TSize Try.prog 63 1 := ⟨by kernel_rfl⟩
instance : TBytes Try.prog 63 8 := ⟨by kernel_rfl⟩
instance : TCell Try.prog 63 := ⟨by kernel_rfl⟩
instance : TZero Try.prog 63 [.nilFunc] := ⟨by kernel_rfl⟩
instance : TFn Try.prog 63 := ⟨by kernel_rfl⟩
instance : TSize Try.prog 64 1 := ⟨by kernel_rfl⟩
instance : TBytes Try.prog 64 8 := ⟨by kernel_rfl⟩
instance : TCell Try.prog 64 := ⟨by kernel_rfl⟩
instance : TZero Try.prog 64 [.nilFunc] := ⟨by kernel_rfl⟩
instance : TFn Try.prog 64 := ⟨by kernel_rfl⟩
instance : TSize Try.prog 65 1 := ⟨by kernel_rfl⟩
instance : TBytes Try.prog 65 8 := ⟨by kernel_rfl⟩
instance : TCell Try.prog 65 := ⟨by kernel_rfl⟩
instance : TZero Try.prog 65 [.nilFunc] := ⟨by kernel_rfl⟩
instance : TFn Try.prog 65 := ⟨by kernel_rfl⟩
instance : TSize Try.prog 66 1 := ⟨by kernel_rfl⟩
instance : TBytes Try.prog 66 8 := ⟨by kernel_rfl⟩
instance : TCell Try.prog 66 := ⟨by kernel_rfl⟩
instance : TZero Try.prog 66 [.nilFunc] := ⟨by kernel_rfl⟩
instance : TFn Try.prog 66 := ⟨by kernel_rfl⟩
instance : TSize Try.prog 67 1 := ⟨by kernel_rfl⟩
instance : TBytes Try.prog 67 8 := ⟨by kernel_rfl⟩
instance : TCell Try.prog 67 := ⟨by kernel_rfl⟩
instance : TZero Try.prog 67 [.nilFunc] := ⟨by kernel_rfl⟩
instance : TFn Try.prog 67 := ⟨by kernel_rfl⟩
instance : TSize Try.prog 68 1 := ⟨by kernel_rfl⟩
instance : TBytes Try.prog 68 8 := ⟨by kernel_rfl⟩
instance : TCell Try.prog 68 := ⟨by kernel_rfl⟩
instance : TZero Try.prog 68 [.nilFunc] := ⟨by kernel_rfl⟩
instance : TFn Try.prog 68 := ⟨by kernel_rfl⟩
instance : TSize Try.prog 69 1 := ⟨by kernel_rfl⟩
instance : TBytes Try.prog 69 24 := ⟨by kernel_rfl⟩
instance : TCell Try.prog 69 := ⟨by kernel_rfl⟩
instance : TZero Try.prog 69 [.slice none 0 0] := ⟨by kernel_rfl⟩
instance : TSl Try.prog 69 102 := ⟨by kernel_rfl⟩
instance : TSize Try.prog 70 1 := ⟨by kernel_rfl⟩
instance : TBytes Try.prog 70 24 := ⟨by kernel_rfl⟩
instance : TCell Try.prog 70 := ⟨by kernel_rfl⟩
instance : TZero Try.prog 70 [.slice none 0 0] := ⟨by kernel_rfl⟩
instance : TSl Try.prog 70 104 := ⟨by kernel_rfl⟩
instance : TSize Try.prog 71 0 := ⟨by kernel_rfl⟩
instance : TBytes Try.prog 71 0 := ⟨by kernel_rfl⟩
instance : TAgg Try.prog 71 := ⟨by kernel_rfl⟩
instance : TZero Try.prog 71 [] := ⟨by kernel_rfl⟩
instance : TStructOk Try.prog 71 := ⟨by kernel_rfl⟩
instance : TStruct Try.prog 71 [] := ⟨by kernel_rfl⟩
instance : TSize Try.prog 72 0 := ⟨by kernel_rfl⟩
instance : TBytes Try.prog 72 0 := ⟨by kernel_rfl⟩
instance : TAgg Try.prog 72 := ⟨by kernel_rfl⟩
instance : TZero Try.prog 72 [] := ⟨by kernel_rfl⟩
instance : TStructOk Try.prog 72 := ⟨by kernel_rfl⟩
instance : TStruct Try.prog 72 [] := ⟨by kernel_rfl⟩
instance : TSize Try.prog 73 0 := ⟨by kernel_rfl⟩
instance : TBytes Try.prog 73 0 := ⟨by kernel_rfl⟩
instance : TAgg Try.prog 73 := ⟨by kernel_rfl⟩
instance : TZero Try.prog 73 [] := ⟨by kernel_rfl⟩
instance : TStructOk Try.prog 73 := ⟨by kernel_rfl⟩
instance : TStruct Try.prog 73 [] := ⟨by kernel_rfl⟩
instance : TSize Try.prog 74 1 := ⟨by kernel_rfl⟩
instance : TBytes Try.prog 74 8 := ⟨by kernel_rfl⟩
instance : TAgg Try.prog 74 := ⟨by kernel_rfl⟩
instance : TZero Try.prog 74 [.int .i64 0] := ⟨by kernel_rfl⟩
instance : FieldOff Try.prog 74 0 0 72 0 := ⟨by kernel_rfl⟩
instance : FieldOff Try.prog 74 1 0 73 0 := ⟨by kernel_rfl⟩
instance : FieldOff Try.prog 74 2 0 2 1 := ⟨by kernel_rfl⟩
instance : TStructOk Try.prog 74 := ⟨by kernel_rfl⟩
instance : TStruct Try.prog 74 [(0, 0), (0, 0), (0, 1)] := ⟨by kernel_rfl⟩
instance : TSize Try.prog 75 1 := ⟨by kernel_rfl⟩
instance : TBytes Try.prog 75 8 := ⟨by kernel_rfl⟩
instance : TAgg Try.prog 75 := ⟨by kernel_rfl⟩
instance : TZero Try.prog 75 [.int .i64 0] := ⟨by kernel_rfl⟩
instance : FieldOff Try.prog 75 0 0 72 0 := ⟨by kernel_rfl⟩
instance : FieldOff Try.prog 75 1 0 73 0 := ⟨by kernel_rfl⟩
instance : FieldOff Try.prog 75 2 0 2 1 := ⟨by kernel_rfl⟩
instance : TStructOk Try.prog 75 := ⟨by kernel_rfl⟩
instance : TStruct Try.prog 75 [(0, 0), (0, 0), (0, 1)] := ⟨by kernel_rfl⟩
instance : TSize Try.prog 76 5 := ⟨by kernel_rfl⟩
instance : TBytes Try.prog 76 72 := ⟨by kernel_rfl⟩
instance : TAgg Try.prog 76 := ⟨by kernel_rfl⟩
instance : TZero Try.prog 76 [.slice none 0 0, .slice none 0 0, .int .i64 0, .bool false, .int .i64 0] := ⟨by kernel_rfl⟩
instance : FieldOff Try.prog 76 0 0 69 1 := ⟨by kernel_rfl⟩
instance : FieldOff Try.prog 76 1 1 70 1 := ⟨by kernel_rfl⟩
instance : FieldOff Try.prog 76 2 2 3 1 := ⟨by kernel_rfl⟩
instance : FieldOff Try.prog 76 3 3 4 1 := ⟨by kernel_rfl⟩
instance : FieldOff Try.prog 76 4 4 75 1 := ⟨by kernel_rfl⟩
instance : TStructOk Try.prog 76 := ⟨by kernel_rfl⟩
instance : TStruct Try.prog 76 [(0, 1), (1, 1), (2, 1), (3, 1), (4, 1)] := ⟨by kernel_rfl⟩
instance : TSize Try.prog 77 5 := ⟨by kernel_rfl⟩
instance : TBytes Try.prog 77 72 := ⟨by kernel_rfl⟩
instance : TAgg Try.prog 77 := ⟨by kernel_rfl⟩
instance : TZero Try.prog 77 [.slice none 0 0, .slice none 0 0, .int .i64 0, .bool false, .int .i64 0] := ⟨by kernel_rfl⟩
instance : FieldOff Try.prog 77 0 0 69 1 := ⟨by kernel_rfl⟩
instance : FieldOff Try.prog 77 1 1 70 1 := ⟨by kernel_rfl⟩
instance : FieldOff Try.prog 77 2 2 3 1 := ⟨by kernel_rfl⟩
instance : FieldOff Try.prog 77 3 3 4 1 := ⟨by kernel_rfl⟩
instance : FieldOff Try.prog 77 4 4 75 1 := ⟨by kernel_rfl⟩
instance : TStructOk Try.prog 77 := ⟨by kernel_rfl⟩
instance : TStruct Try.prog 77 [(0, 1), (1, 1), (2, 1), (3, 1), (4, 1)] := ⟨by kernel_rfl⟩
instance : TSize Try.prog 78 1 := ⟨by kernel_rfl⟩
instance : TBytes Try.prog 78 8 := ⟨by kernel_rfl⟩
instance : TCell Try.prog 78 := ⟨by kernel_rfl⟩
instance : TZero Try.prog 78 [.pointer none] := ⟨by kernel_rfl⟩
instance : TPtr Try.prog 78 107 := ⟨by kernel_rfl⟩
instance : TSize Try.prog 79 1 := ⟨by kernel_rfl⟩
instance : TBytes Try.prog 79 24 := ⟨by kernel_rfl⟩
instance : TCell Try.prog 79 := ⟨by kernel_rfl⟩
instance : TZero Try.prog 79 [.slice none 0 0] := ⟨by kernel_rfl⟩
instance : TSl Try.prog 79 57 := ⟨by kernel_rfl⟩
instance : TSize Try.prog 81 1 := ⟨by kernel_rfl⟩
instance : TBytes Try.prog 81 8 := ⟨by kernel_rfl⟩
instance : TCell Try.prog 81 := ⟨by kernel_rfl⟩
instance : TZero Try.prog 81 [.nilFunc] := ⟨by kernel_rfl⟩
instance : TFn Try.prog 81 := ⟨by kernel_rfl⟩
instance : TSize Try.prog 82 3 := ⟨by kernel_rfl⟩
instance : TBytes Try.prog 82 40 := ⟨by kernel_rfl⟩
instance : TAgg Try.prog 82 := ⟨by kernel_rfl⟩
instance : TZero Try.prog 82 [.slice none 0 0, .int .i64 0, .int .i64 0] := ⟨by kernel_rfl⟩
instance : FieldOff Try.prog 82 0 0 37 1 := ⟨by kernel_rfl⟩
instance : FieldOff Try.prog 82 1 1 62 2 := ⟨by kernel_rfl⟩
instance : TStructOk Try.prog 82 := ⟨by kernel_rfl⟩
instance : TStruct Try.prog 82 [(0, 1), (1, 2)] := ⟨by kernel_rfl⟩
instance : TSize Try.prog 83 3 := ⟨by kernel_rfl⟩
instance : TBytes Try.prog 83 40 := ⟨by kernel_rfl⟩
instance : TAgg Try.prog 83 := ⟨by kernel_rfl⟩
instance : TZero Try.prog 83 [.slice none 0 0, .int .i64 0, .int .i64 0] := ⟨by kernel_rfl⟩
instance : FieldOff Try.prog 83 0 0 37 1 := ⟨by kernel_rfl⟩
instance : FieldOff Try.prog 83 1 1 62 2 := ⟨by kernel_rfl⟩
instance : TStructOk Try.prog 83 := ⟨by kernel_rfl⟩
instance : TStruct Try.prog 83 [(0, 1), (1, 2)] := ⟨by kernel_rfl⟩
instance : TSize Try.prog 85 1 := ⟨by kernel_rfl⟩
instance : TBytes Try.prog 85 8 := ⟨by kernel_rfl⟩
instance : TCell Try.prog 85 := ⟨by kernel_rfl⟩
instance : TZero Try.prog 85 [.nilFunc] := ⟨by kernel_rfl⟩
instance : TFn Try.prog 85 := ⟨by kernel_rfl⟩
instance : TSize Try.prog 86 1 := ⟨by kernel_rfl⟩
instance : TBytes Try.prog 86 8 := ⟨by kernel_rfl⟩
instance : TCell Try.prog 86 := ⟨by kernel_rfl⟩
instance : TZero Try.prog 86 [.nilFunc] := ⟨by kernel_rfl⟩
instance : TFn Try.prog 86 := ⟨by kernel_rfl⟩
instance : TSize Try.prog 87 1 := ⟨by kernel_rfl⟩
instance : TBytes Try.prog 87 8 := ⟨by kernel_rfl⟩
instance : TCell Try.prog 87 := ⟨by kernel_rfl⟩
instance : TZero Try.prog 87 [.nilFunc] := ⟨by kernel_rfl⟩
instance : TFn Try.prog 87 := ⟨by kernel_rfl⟩
instance : TSize Try.prog 88 4 := ⟨by kernel_rfl⟩
instance : TBytes Try.prog 88 24 := ⟨by kernel_rfl⟩
instance : TAgg Try.prog 88 := ⟨by kernel_rfl⟩
instance : TZero Try.prog 88 [.bool false, .bool false, .int .i64 0, .int .i64 0] := ⟨by kernel_rfl⟩
instance : FieldOff Try.prog 88 0 0 4 1 := ⟨by kernel_rfl⟩
instance : FieldOff Try.prog 88 1 1 4 1 := ⟨by kernel_rfl⟩
instance : FieldOff Try.prog 88 2 2 46 2 := ⟨by kernel_rfl⟩
instance : TStructOk Try.prog 88 := ⟨by kernel_rfl⟩
instance : TStruct Try.prog 88 [(0, 1), (1, 1), (2, 2)] := ⟨by kernel_rfl⟩
instance : TEq Try.prog 88 [.b, .b, .i .i64, .i .i64] := ⟨by kernel_rfl, by kernel_rfl⟩
instance : TSize Try.prog 89 4 := ⟨by kernel_rfl⟩
instance : TBytes Try.prog 89 24 := ⟨by kernel_rfl⟩
instance : TAgg Try.prog 89 := ⟨by kernel_rfl⟩
instance : TZero Try.prog 89 [.bool false, .bool false, .int .i64 0, .int .i64 0] := ⟨by kernel_rfl⟩
instance : FieldOff Try.prog 89 0 0 4 1 := ⟨by kernel_rfl⟩
instance : FieldOff Try.prog 89 1 1 4 1 := ⟨by kernel_rfl⟩
instance : FieldOff Try.prog 89 2 2 46 2 := ⟨by kernel_rfl⟩
instance : TStructOk Try.prog 89 := ⟨by kernel_rfl⟩
instance : TStruct Try.prog 89 [(0, 1), (1, 1), (2, 2)] := ⟨by kernel_rfl⟩
instance : TEq Try.prog 89 [.b, .b, .i .i64, .i .i64] := ⟨by kernel_rfl, by kernel_rfl⟩
instance : TSize Try.prog 90 20 := ⟨by kernel_rfl⟩
instance : TBytes Try.prog 90 120 := ⟨by kernel_rfl⟩
instance : TAgg Try.prog 90 := ⟨by kernel_rfl⟩
instance : TZero Try.prog 90 [.bool false, .bool false, .int .i64 0, .int .i64 0, .bool false, .bool false, .int .i64 0, .int .i64 0, .bool false, .bool false, .int .i64 0, .int .i64 0, .bool false, .bool false, .int .i64 0, .int .i64 0, .bool false, .bool false, .int .i64 0, .int .i64 0] := ⟨by kernel_rfl⟩
instance : TArr Try.prog 90 5 89 := ⟨by kernel_rfl⟩
instance : TSize Try.prog 91 1 := ⟨by kernel_rfl⟩
instance : TBytes Try.prog 91 4 := ⟨by kernel_rfl⟩
instance : TCell Try.prog 91 := ⟨by kernel_rfl⟩
instance : TZero Try.prog 91 [.int .u32 0] := ⟨by kernel_rfl⟩
instance : TInt Try.prog 91 .u32 := ⟨by kernel_rfl⟩
instance : TSize Try.prog 92 1 := ⟨by kernel_rfl⟩
instance : TBytes Try.prog 92 4 := ⟨by kernel_rfl⟩
instance : TAgg Try.prog 92 := ⟨by kernel_rfl⟩
instance : TZero Try.prog 92 [.int .u32 0] := ⟨by kernel_rfl⟩
instance : FieldOff Try.prog 92 0 0 72 0 := ⟨by kernel_rfl⟩
instance : FieldOff Try.prog 92 1 0 91 1 := ⟨by kernel_rfl⟩
instance : TStructOk Try.prog 92 := ⟨by kernel_rfl⟩
instance : TStruct Try.prog 92 [(0, 0), (0, 1)] := ⟨by kernel_rfl⟩
instance : TSize Try.prog 93 1 := ⟨by kernel_rfl⟩
instance : TBytes Try.prog 93 4 := ⟨by kernel_rfl⟩
instance : TAgg Try.prog 93 := ⟨by kernel_rfl⟩
instance : TZero Try.prog 93 [.int .u32 0] := ⟨by kernel_rfl⟩
instance : FieldOff Try.prog 93 0 0 72 0 := ⟨by kernel_rfl⟩
instance : FieldOff Try.prog 93 1 0 91 1 := ⟨by kernel_rfl⟩
instance : TStructOk Try.prog 93 := ⟨by kernel_rfl⟩
instance : TStruct Try.prog 93 [(0, 0), (0, 1)] := ⟨by kernel_rfl⟩
instance : TSize Try.prog 94 26 := ⟨by kernel_rfl⟩
instance : TBytes Try.prog 94 184 := ⟨by kernel_rfl⟩
instance : TAgg Try.prog 94 := ⟨by kernel_rfl⟩
instance : TZero Try.prog 94 [.slice none 0 0, .int .i64 0, .int .i64 0, .pointer none, .int .i64 0, .bool false, .bool false, .int .i64 0, .int .i64 0, .bool false, .bool false, .int .i64 0, .int .i64 0, .bool false, .bool false, .int .i64 0, .int .i64 0, .bool false, .bool false, .int .i64 0, .int .i64 0, .bool false, .bool false, .int .i64 0, .int .i64 0, .int .u32 0] := ⟨by kernel_rfl⟩
instance : FieldOff Try.prog 94 0 0 83 3 := ⟨by kernel_rfl⟩
instance : FieldOff Try.prog 94 1 3 78 1 := ⟨by kernel_rfl⟩
instance : FieldOff Try.prog 94 2 4 3 1 := ⟨by kernel_rfl⟩
instance : FieldOff Try.prog 94 3 5 90 20 := ⟨by kernel_rfl⟩
instance : FieldOff Try.prog 94 4 25 93 1 := ⟨by kernel_rfl⟩
instance : TStructOk Try.prog 94 := ⟨by kernel_rfl⟩
instance : TStruct Try.prog 94 [(0, 3), (3, 1), (4, 1), (5, 20), (25, 1)] := ⟨by kernel_rfl⟩
instance : TSize Try.prog 95 26 := ⟨by kernel_rfl⟩
instance : TBytes Try.prog 95 184 := ⟨by kernel_rfl⟩
instance : TAgg Try.prog 95 := ⟨by kernel_rfl⟩
instance : TZero Try.prog 95 [.slice none 0 0, .int .i64 0, .int .i64 0, .pointer none, .int .i64 0, .bool false, .bool false, .int .i64 0, .int .i64 0, .bool false, .bool false, .int .i64 0, .int .i64 0, .bool false, .bool false, .int .i64 0, .int .i64 0, .bool false, .bool false, .int .i64 0, .int .i64 0, .bool false, .bool false, .int .i64 0, .int .i64 0, .int .u32 0] := ⟨by kernel_rfl⟩
instance : FieldOff Try.prog 95 0 0 83 3 := ⟨by kernel_rfl⟩
instance : FieldOff Try.prog 95 1 3 78 1 := ⟨by kernel_rfl⟩
instance : FieldOff Try.prog 95 2 4 3 1 := ⟨by kernel_rfl⟩
instance : FieldOff Try.prog 95 3 5 90 20 := ⟨by kernel_rfl⟩
instance : FieldOff Try.prog 95 4 25 93 1 := ⟨by kernel_rfl⟩
instance : TStructOk Try.prog 95 := ⟨by kernel_rfl⟩
instance : TStruct Try.prog 95 [(0, 3), (3, 1), (4, 1), (5, 20), (25, 1)] := ⟨by kernel_rfl⟩
instance : TSize Try.prog 96 1 := ⟨by kernel_rfl⟩
instance : TBytes Try.prog 96 8 := ⟨by kernel_rfl⟩
instance : TCell Try.prog 96 := ⟨by kernel_rfl⟩
instance : TZero Try.prog 96 [.nilFunc] := ⟨by kernel_rfl⟩
instance : TFn Try.prog 96 := ⟨by kernel_rfl⟩
instance : TSize Try.prog 97 1 := ⟨by kernel_rfl⟩
instance : TBytes Try.prog 97 8 := ⟨by kernel_rfl⟩
instance : TCell Try.prog 97 := ⟨by kernel_rfl⟩
instance : TZero Try.prog 97 [.nilFunc] := ⟨by kernel_rfl⟩
instance : TFn Try.prog 97 := ⟨by kernel_rfl⟩
instance : TSize Try.prog 99 1 := ⟨by kernel_rfl⟩
instance : TBytes Try.prog 99 8 := ⟨by kernel_rfl⟩
instance : TCell Try.prog 99 := ⟨by kernel_rfl⟩
instance : TZero Try.prog 99 [.nilFunc] := ⟨by kernel_rfl⟩
instance : TFn Try.prog 99 := ⟨by kernel_rfl⟩
instance : TSize Try.prog 100 1 := ⟨by kernel_rfl⟩
instance : TBytes Try.prog 100 8 := ⟨by kernel_rfl⟩
instance : TCell Try.prog 100 := ⟨by kernel_rfl⟩
instance : TZero Try.prog 100 [.nilFunc] := ⟨by kernel_rfl⟩
instance : TFn Try.prog 100 := ⟨by kernel_rfl⟩
instance : TSize Try.prog 101 64 := ⟨by kernel_rfl⟩
instance : TBytes Try.prog 101 64 := ⟨by kernel_rfl⟩
instance : TAgg Try.prog 101 := ⟨by kernel_rfl⟩
def zr64_intu80 : List Value := List.replicate 64 (.int .u8 0)
instance : TZero Try.prog 101 zr64_intu80 := ⟨by kernel_rfl⟩
instance : TArr Try.prog 101 64 5 := ⟨by kernel_rfl⟩
instance : TSize Try.prog 102 64 := ⟨by kernel_rfl⟩
instance : TBytes Try.prog 102 64 := ⟨by kernel_rfl⟩
instance : TAgg Try.prog 102 := ⟨by kernel_rfl⟩
instance : TZero Try.prog 102 zr64_intu80 := ⟨by kernel_rfl⟩
instance : TArr Try.prog 102 64 5 := ⟨by kernel_rfl⟩
instance : TSize Try.prog 103 65 := ⟨by kernel_rfl⟩
instance : TBytes Try.prog 103 72 := ⟨by kernel_rfl⟩
instance : TAgg Try.prog 103 := ⟨by kernel_rfl⟩
instance : TZero Try.prog 103 [.int .i64 0, .int .u8 0, .int .u8 0, .int .u8 0, .int .u8 0, .int .u8 0, .int .u8 0, .int .u8 0, .int .u8 0, .int .u8 0, .int .u8 0, .int .u8 0, .int .u8 0, .int .u8 0, .int .u8 0, .int .u8 0, .int .u8 0, .int .u8 0, .int .u8 0, .int .u8 0, .int .u8 0, .int .u8 0, .int .u8 0, .int .u8 0, .int .u8 0, .int .u8 0, .int .u8 0, .int .u8 0, .int .u8 0, .int .u8 0, .int .u8 0, .int .u8 0, .int .u8 0, .int .u8 0, .int .u8 0, .int .u8 0, .int .u8 0, .int .u8 0, .int .u8 0, .int .u8 0, .int .u8 0, .int .u8 0, .int .u8 0, .int .u8 0, .int .u8 0, .int .u8 0, .int .u8 0, .int .u8 0, .int .u8 0, .int .u8 0, .int .u8 0, .int .u8 0, .int .u8 0, .int .u8 0, .int .u8 0, .int .u8 0, .int .u8 0, .int .u8 0, .int .u8 0, .int .u8 0, .int .u8 0, .int .u8 0, .int .u8 0, .int .u8 0, .int .u8 0] := ⟨by kernel_rfl⟩
instance : FieldOff Try.prog 103 0 0 3 1 := ⟨by kernel_rfl⟩
instance : FieldOff Try.prog 103 1 1 102 64 := ⟨by kernel_rfl⟩
instance : TStructOk Try.prog 103 := ⟨by kernel_rfl⟩
instance : TStruct Try.prog 103 [(0, 1), (1, 64)] := ⟨by kernel_rfl⟩
instance : TSize Try.prog 104 65 := ⟨by kernel_rfl⟩
instance : TBytes Try.prog 104 72 := ⟨by kernel_rfl⟩
instance : TAgg Try.prog 104 := ⟨by kernel_rfl⟩
instance : TZero Try.prog 104 [.int .i64 0, .int .u8 0, .int .u8 0, .int .u8 0, .int .u8 0, .int .u8 0, .int .u8 0, .int .u8 0, .int .u8 0, .int .u8 0, .int .u8 0, .int .u8 0, .int .u8 0, .int .u8 0, .int .u8 0, .int .u8 0, .int .u8 0, .int .u8 0, .int .u8 0, .int .u8 0, .int .u8 0, .int .u8 0, .int .u8 0, .int .u8 0, .int .u8 0, .int .u8 0, .int .u8 0, .int .u8 0, .int .u8 0, .int .u8 0, .int .u8 0, .int .u8 0, .int .u8 0, .int .u8 0, .int .u8 0, .int .u8 0, .int .u8 0, .int .u8 0, .int .u8 0, .int .u8 0, .int .u8 0, .int .u8 0, .int .u8 0, .int .u8 0, .int .u8 0, .int .u8 0, .int .u8 0, .int .u8 0, .int .u8 0, .int .u8 0, .int .u8 0, .int .u8 0, .int .u8 0, .int .u8 0, .int .u8 0, .int .u8 0, .int .u8 0, .int .u8 0, .int .u8 0, .int .u8 0, .int .u8 0, .int .u8 0, .int .u8 0, .int .u8 0, .int .u8 0] := ⟨by kernel_rfl⟩
instance : FieldOff Try.prog 104 0 0 3 1 := ⟨by kernel_rfl⟩
instance : FieldOff Try.prog 104 1 1 102 64 := ⟨by kernel_rfl⟩
instance : TStructOk Try.prog 104 := ⟨by kernel_rfl⟩
instance : TStruct Try.prog 104 [(0, 1), (1, 64)] := ⟨by kernel_rfl⟩
instance : TSize Try.prog 105 1 := ⟨by kernel_rfl⟩
instance : TBytes Try.prog 105 8 := ⟨by kernel_rfl⟩
instance : TCell Try.prog 105 := ⟨by kernel_rfl⟩
instance : TZero Try.prog 105 [.nilFunc] := ⟨by kernel_rfl⟩
instance : TFn Try.prog 105 := ⟨by kernel_rfl⟩
instance : TSize Try.prog 106 8 := ⟨by kernel_rfl⟩
instance : TBytes Try.prog 106 56 := ⟨by kernel_rfl⟩
instance : TAgg Try.prog 106 := ⟨by kernel_rfl⟩
instance : TZero Try.prog 106 [.pointer none, .int .i64 0, .int .i64 0, .int .i64 0, .int .i64 0, .int .i64 0, .bool false, .int .u32 0] := ⟨by kernel_rfl⟩
instance : FieldOff Try.prog 106 0 0 24 1 := ⟨by kernel_rfl⟩
instance : FieldOff Try.prog 106 1 1 3 1 := ⟨by kernel_rfl⟩
instance : FieldOff Try.prog 106 2 2 3 1 := ⟨by kernel_rfl⟩
instance : FieldOff Try.prog 106 3 3 3 1 := ⟨by kernel_rfl⟩
instance : FieldOff Try.prog 106 4 4 3 1 := ⟨by kernel_rfl⟩
instance : FieldOff Try.prog 106 5 5 3 1 := ⟨by kernel_rfl⟩
instance : FieldOff Try.prog 106 6 6 4 1 := ⟨by kernel_rfl⟩
instance : FieldOff Try.prog 106 7 7 93 1 := ⟨by kernel_rfl⟩
instance : TStructOk Try.prog 106 := ⟨by kernel_rfl⟩
instance : TStruct Try.prog 106 [(0, 1), (1, 1), (2, 1), (3, 1), (4, 1), (5, 1), (6, 1), (7, 1)] := ⟨by kernel_rfl⟩
instance : TSize Try.prog 107 8 := ⟨by kernel_rfl⟩
instance : TBytes Try.prog 107 56 := ⟨by kernel_rfl⟩
instance : TAgg Try.prog 107 := ⟨by kernel_rfl⟩
instance : TZero Try.prog 107 [.pointer none, .int .i64 0, .int .i64 0, .int .i64 0, .int .i64 0, .int .i64 0, .bool false, .int .u32 0] := ⟨by kernel_rfl⟩
instance : FieldOff Try.prog 107 0 0 24 1 := ⟨by kernel_rfl⟩
instance : FieldOff Try.prog 107 1 1 3 1 := ⟨by kernel_rfl⟩
instance : FieldOff Try.prog 107 2 2 3 1 := ⟨by kernel_rfl⟩
instance : FieldOff Try.prog 107 3 3 3 1 := ⟨by kernel_rfl⟩
instance : FieldOff Try.prog 107 4 4 3 1 := ⟨by kernel_rfl⟩
instance : FieldOff Try.prog 107 5 5 3 1 := ⟨by kernel_rfl⟩
instance : FieldOff Try.prog 107 6 6 4 1 := ⟨by kernel_rfl⟩
instance : FieldOff Try.prog 107 7 7 93 1 := ⟨by kernel_rfl⟩
instance : TStructOk Try.prog 107 := ⟨by kernel_rfl⟩
instance : TStruct Try.prog 107 [(0, 1), (1, 1), (2, 1), (3, 1), (4, 1), (5, 1), (6, 1), (7, 1)] := ⟨by kernel_rfl⟩
instance : TSize Try.prog 109 1 := ⟨by kernel_rfl⟩
instance : TBytes Try.prog 109 8 := ⟨by kernel_rfl⟩
instance : TCell Try.prog 109 := ⟨by kernel_rfl⟩
instance : TZero Try.prog 109 [.nilFunc] := ⟨by kernel_rfl⟩
instance : TFn Try.prog 109 := ⟨by kernel_rfl⟩
instance : TSize Try.prog 110 1 := ⟨by kernel_rfl⟩
instance : TBytes Try.prog 110 8 := ⟨by kernel_rfl⟩
instance : TCell Try.prog 110 := ⟨by kernel_rfl⟩
instance : TZero Try.prog 110 [.pointer none] := ⟨by kernel_rfl⟩
instance : TPtr Try.prog 110 132 := ⟨by kernel_rfl⟩
instance : TSize Try.prog 111 1 := ⟨by kernel_rfl⟩
instance : TBytes Try.prog 111 8 := ⟨by kernel_rfl⟩
instance : TCell Try.prog 111 := ⟨by kernel_rfl⟩
instance : TZero Try.prog 111 [.nilFunc] := ⟨by kernel_rfl⟩
instance : TFn Try.prog 111 := ⟨by kernel_rfl⟩
instance : TSize Try.prog 112 1 := ⟨by kernel_rfl⟩
instance : TBytes Try.prog 112 8 := ⟨by kernel_rfl⟩
instance : TCell Try.prog 112 := ⟨by kernel_rfl⟩
instance : TZero Try.prog 112 [.nilFunc] := ⟨by kernel_rfl⟩
instance : TFn Try.prog 112 := ⟨by kernel_rfl⟩
instance : TSize Try.prog 113 1 := ⟨by kernel_rfl⟩
instance : TBytes Try.prog 113 8 := ⟨by kernel_rfl⟩
instance : TCell Try.prog 113 := ⟨by kernel_rfl⟩
instance : TZero Try.prog 113 [.nilFunc] := ⟨by kernel_rfl⟩
instance : TFn Try.prog 113 := ⟨by kernel_rfl⟩
instance : TSize Try.prog 114 1 := ⟨by kernel_rfl⟩
instance : TBytes Try.prog 114 8 := ⟨by kernel_rfl⟩
instance : TCell Try.prog 114 := ⟨by kernel_rfl⟩
instance : TZero Try.prog 114 [.nilFunc] := ⟨by kernel_rfl⟩
instance : TFn Try.prog 114 := ⟨by kernel_rfl⟩
instance : TSize Try.prog 116 1 := ⟨by kernel_rfl⟩
instance : TBytes Try.prog 116 8 := ⟨by kernel_rfl⟩
instance : TCell Try.prog 116 := ⟨by kernel_rfl⟩
instance : TZero Try.prog 116 [.nilFunc] := ⟨by kernel_rfl⟩
instance : TFn Try.prog 116 := ⟨by kernel_rfl⟩
instance : TSize Try.prog 117 1 := ⟨by kernel_rfl⟩
instance : TBytes Try.prog 117 8 := ⟨by kernel_rfl⟩
instance : TCell Try.prog 117 := ⟨by kernel_rfl⟩
instance : TZero Try.prog 117 [.nilFunc] := ⟨by kernel_rfl⟩
instance : TFn Try.prog 117 := ⟨by kernel_rfl⟩
instance : TSize Try.prog 118 1 := ⟨by kernel_rfl⟩
instance : TBytes Try.prog 118 8 := ⟨by kernel_rfl⟩
instance : TCell Try.prog 118 := ⟨by kernel_rfl⟩
instance : TZero Try.prog 118 [.pointer none] := ⟨by kernel_rfl⟩
instance : TPtr Try.prog 118 122 := ⟨by kernel_rfl⟩
instance : TSize Try.prog 119 2 := ⟨by kernel_rfl⟩
instance : TBytes Try.prog 119 32 := ⟨by kernel_rfl⟩
instance : TAgg Try.prog 119 := ⟨by kernel_rfl⟩
instance : TZero Try.prog 119 [.slice none 0 0, .bool false] := ⟨by kernel_rfl⟩
instance : FieldOff Try.prog 119 0 0 57 1 := ⟨by kernel_rfl⟩
instance : FieldOff Try.prog 119 1 1 4 1 := ⟨by kernel_rfl⟩
instance : TStructOk Try.prog 119 := ⟨by kernel_rfl⟩
instance : TStruct Try.prog 119 [(0, 1), (1, 1)] := ⟨by kernel_rfl⟩
instance : TSize Try.prog 120 2 := ⟨by kernel_rfl⟩
instance : TBytes Try.prog 120 32 := ⟨by kernel_rfl⟩
instance : TAgg Try.prog 120 := ⟨by kernel_rfl⟩
instance : TZero Try.prog 120 [.slice none 0 0, .bool false] := ⟨by kernel_rfl⟩
instance : FieldOff Try.prog 120 0 0 57 1 := ⟨by kernel_rfl⟩
instance : FieldOff Try.prog 120 1 1 4 1 := ⟨by kernel_rfl⟩
instance : TStructOk Try.prog 120 := ⟨by kernel_rfl⟩
instance : TStruct Try.prog 120 [(0, 1), (1, 1)] := ⟨by kernel_rfl⟩
instance : TSize Try.prog 121 2 := ⟨by kernel_rfl⟩
instance : TBytes Try.prog 121 32 := ⟨by kernel_rfl⟩
instance : TAgg Try.prog 121 := ⟨by kernel_rfl⟩
instance : TZero Try.prog 121 [.slice none 0 0, .bool false] := ⟨by kernel_rfl⟩
instance : FieldOff Try.prog 121 0 0 120 2 := ⟨by kernel_rfl⟩
instance : TStructOk Try.prog 121 := ⟨by kernel_rfl⟩
instance : TStruct Try.prog 121 [(0, 2)] := ⟨by kernel_rfl⟩
instance : TSize Try.prog 122 2 := ⟨by kernel_rfl⟩
instance : TBytes Try.prog 122 32 := ⟨by kernel_rfl⟩
instance : TAgg Try.prog 122 := ⟨by kernel_rfl⟩
instance : TZero Try.prog 122 [.slice none 0 0, .bool false] := ⟨by kernel_rfl⟩
instance : FieldOff Try.prog 122 0 0 120 2 := ⟨by kernel_rfl⟩
instance : TStructOk Try.prog 122 := ⟨by kernel_rfl⟩
instance : TStruct Try.prog 122 [(0, 2)] := ⟨by kernel_rfl⟩
instance : TSize Try.prog 124 1 := ⟨by kernel_rfl⟩
instance : TBytes Try.prog 124 8 := ⟨by kernel_rfl⟩
instance : TCell Try.prog 124 := ⟨by kernel_rfl⟩
instance : TZero Try.prog 124 [.nilFunc] := ⟨by kernel_rfl⟩
instance : TFn Try.prog 124 := ⟨by kernel_rfl⟩
instance : TSize Try.prog 125 1 := ⟨by kernel_rfl⟩
instance : TBytes Try.prog 125 8 := ⟨by kernel_rfl⟩
instance : TCell Try.prog 125 := ⟨by kernel_rfl⟩
instance : TZero Try.prog 125 [.pointer none] := ⟨by kernel_rfl⟩
instance : TPtr Try.prog 125 93 := ⟨by kernel_rfl⟩
instance : TSize Try.prog 126 1 := ⟨by kernel_rfl⟩
instance : TBytes Try.prog 126 8 := ⟨by kernel_rfl⟩
instance : TCell Try.prog 126 := ⟨by kernel_rfl⟩
instance : TZero Try.prog 126 [.nilFunc] := ⟨by kernel_rfl⟩
instance : TFn Try.prog 126 := ⟨by kernel_rfl⟩
instance : TSize Try.prog 127 1 := ⟨by kernel_rfl⟩
instance : TBytes Try.prog 127 8 := ⟨by kernel_rfl⟩
instance : TCell Try.prog 127 := ⟨by kernel_rfl⟩
instance : TZero Try.prog 127 [.pointer none] := ⟨by kernel_rfl⟩
instance : TPtr Try.prog 127 91 := ⟨by kernel_rfl⟩
instance : TSize Try.prog 128 1 := ⟨by kernel_rfl⟩
instance : TBytes Try.prog 128 8 := ⟨by kernel_rfl⟩
instance : TCell Try.prog 128 := ⟨by kernel_rfl⟩
instance : TZero Try.prog 128 [.nilFunc] := ⟨by kernel_rfl⟩
instance : TFn Try.prog 128 := ⟨by kernel_rfl⟩
instance : TSize Try.prog 129 1 := ⟨by kernel_rfl⟩
instance : TBytes Try.prog 129 8 := ⟨by kernel_rfl⟩
instance : TCell Try.prog 129 := ⟨by kernel_rfl⟩
instance : TZero Try.prog 129 [.nilFunc] := ⟨by kernel_rfl⟩
instance : TFn Try.prog 129 := ⟨by kernel_rfl⟩
instance : TSize Try.prog 131 1 := ⟨by kernel_rfl⟩
instance : TBytes Try.prog 131 8 := ⟨by kernel_rfl⟩
instance : TCell Try.prog 131 := ⟨by kernel_rfl⟩
instance : TZero Try.prog 131 [.nilFunc] := ⟨by kernel_rfl⟩
instance : TFn Try.prog 131 := ⟨by kernel_rfl⟩
instance : TSize Try.prog 132 2 := ⟨by kernel_rfl⟩
instance : TBytes Try.prog 132 32 := ⟨by kernel_rfl⟩
instance : TAgg Try.prog 132 := ⟨by kernel_rfl⟩
instance : TZero Try.prog 132 [.slice none 0 0, .bool false] := ⟨by kernel_rfl⟩
instance : FieldOff Try.prog 132 0 0 120 2 := ⟨by kernel_rfl⟩
instance : TStructOk Try.prog 132 := ⟨by kernel_rfl⟩
instance : TStruct Try.prog 132 [(0, 2)] := ⟨by kernel_rfl⟩
instance : TSize Try.prog 134 1 := ⟨by kernel_rfl⟩
instance : TBytes Try.prog 134 8 := ⟨by kernel_rfl⟩
instance : TCell Try.prog 134 := ⟨by kernel_rfl⟩
instance : TZero Try.prog 134 [.nilFunc] := ⟨by kernel_rfl⟩
instance : TFn Try.prog 134 := ⟨by kernel_rfl⟩
instance : TSize Try.prog 135 1 := ⟨by kernel_rfl⟩
instance : TBytes Try.prog 135 8 := ⟨by kernel_rfl⟩
instance : TCell Try.prog 135 := ⟨by kernel_rfl⟩
instance : TZero Try.prog 135 [.nilFunc] := ⟨by kernel_rfl⟩
instance : TFn Try.prog 135 := ⟨by kernel_rfl⟩
instance : TSize Try.prog 136 1 := ⟨by kernel_rfl⟩
instance : TBytes Try.prog 136 8 := ⟨by kernel_rfl⟩
instance : TCell Try.prog 136 := ⟨by kernel_rfl⟩
instance : TZero Try.prog 136 [.nilFunc] := ⟨by kernel_rfl⟩
instance : TFn Try.prog 136 := ⟨by kernel_rfl⟩
instance : TSize Try.prog 137 1 := ⟨by kernel_rfl⟩
instance : TBytes Try.prog 137 8 := ⟨by kernel_rfl⟩
instance : TCell Try.prog 137 := ⟨by kernel_rfl⟩
instance : TZero Try.prog 137 [.nilFunc] := ⟨by kernel_rfl⟩
instance : TFn Try.prog 137 := ⟨by kernel_rfl⟩
instance : TSize Try.prog 138 1 := ⟨by kernel_rfl⟩
instance : TBytes Try.prog 138 8 := ⟨by kernel_rfl⟩
instance : TCell Try.prog 138 := ⟨by kernel_rfl⟩
instance : TZero Try.prog 138 [.nilFunc] := ⟨by kernel_rfl⟩
instance : TFn Try.prog 138 := ⟨by kernel_rfl⟩
instance : TSize Try.prog 139 1 := ⟨by kernel_rfl⟩
instance : TBytes Try.prog 139 8 := ⟨by kernel_rfl⟩
instance : TCell Try.prog 139 := ⟨by kernel_rfl⟩
instance : TZero Try.prog 139 [.nilFunc] := ⟨by kernel_rfl⟩
instance : TFn Try.prog 139 := ⟨by kernel_rfl⟩
instance : TSize Try.prog 140 1 := ⟨by kernel_rfl⟩
instance : TBytes Try.prog 140 8 := ⟨by kernel_rfl⟩
instance : TCell Try.prog 140 := ⟨by kernel_rfl⟩
instance : TZero Try.prog 140 [.nilFunc] := ⟨by kernel_rfl⟩
instance : TFn Try.prog 140 := ⟨by kernel_rfl⟩
instance : TSize Try.prog 141 1 := ⟨by kernel_rfl⟩
instance : TBytes Try.prog 141 8 := ⟨by kernel_rfl⟩
instance : TCell Try.prog 141 := ⟨by kernel_rfl⟩
instance : TZero Try.prog 141 [.nilFunc] := ⟨by kernel_rfl⟩
instance : TFn Try.prog 141 := ⟨by kernel_rfl⟩
instance : TSize Try.prog 142 1 := ⟨by kernel_rfl⟩
instance : TBytes Try.prog 142 8 := ⟨by kernel_rfl⟩
instance : TCell Try.prog 142 := ⟨by kernel_rfl⟩
instance : TZero Try.prog 142 [.nilFunc] := ⟨by kernel_rfl⟩
instance : TFn Try.prog 142 := ⟨by kernel_rfl⟩
instance : TSize Try.prog 143 1 := ⟨by kernel_rfl⟩
instance : TBytes Try.prog 143 8 := ⟨by kernel_rfl⟩
instance : TCell Try.prog 143 := ⟨by kernel_rfl⟩
instance : TZero Try.prog 143 [.nilFunc] := ⟨by kernel_rfl⟩
instance : TFn Try.prog 143 := ⟨by kernel_rfl⟩
instance : TSize Try.prog 144 1 := ⟨by kernel_rfl⟩
instance : TBytes Try.prog 144 8 := ⟨by kernel_rfl⟩
instance : TCell Try.prog 144 := ⟨by kernel_rfl⟩
instance : TZero Try.prog 144 [.pointer none] := ⟨by kernel_rfl⟩
instance : TPtr Try.prog 144 120 := ⟨by kernel_rfl⟩
instance : TSize Try.prog 145 1 := ⟨by kernel_rfl⟩
instance : TBytes Try.prog 145 8 := ⟨by kernel_rfl⟩
instance : TCell Try.prog 145 := ⟨by kernel_rfl⟩
instance : TZero Try.prog 145 [.nilFunc] := ⟨by kernel_rfl⟩
instance : TFn Try.prog 145 := ⟨by kernel_rfl⟩
instance : TSize Try.prog 146 1 := ⟨by kernel_rfl⟩
instance : TBytes Try.prog 146 8 := ⟨by kernel_rfl⟩
instance : TCell Try.prog 146 := ⟨by kernel_rfl⟩
instance : TZero Try.prog 146 [.nilFunc] := ⟨by kernel_rfl⟩
instance : TFn Try.prog 146 := ⟨by kernel_rfl⟩
instance : TSize Try.prog 147 1 := ⟨by kernel_rfl⟩
instance : TBytes Try.prog 147 8 := ⟨by kernel_rfl⟩
instance : TCell Try.prog 147 := ⟨by kernel_rfl⟩
instance : TZero Try.prog 147 [.pointer none] := ⟨by kernel_rfl⟩
instance : TPtr Try.prog 147 75 := ⟨by kernel_rfl⟩
instance : TSize Try.prog 148 1 := ⟨by kernel_rfl⟩
instance : TBytes Try.prog 148 8 := ⟨by kernel_rfl⟩
instance : TCell Try.prog 148 := ⟨by kernel_rfl⟩
instance : TZero Try.prog 148 [.nilFunc] := ⟨by kernel_rfl⟩
instance : TFn Try.prog 148 := ⟨by kernel_rfl⟩
instance : TSize Try.prog 149 1 := ⟨by kernel_rfl⟩
instance : TBytes Try.prog 149 8 := ⟨by kernel_rfl⟩
instance : TCell Try.prog 149 := ⟨by kernel_rfl⟩
instance : TZero Try.prog 149 [.pointer none] := ⟨by kernel_rfl⟩
instance : TPtr Try.prog 149 2 := ⟨by kernel_rfl⟩
instance : TSize Try.prog 150 1 := ⟨by kernel_rfl⟩
instance : TBytes Try.prog 150 8 := ⟨by kernel_rfl⟩
instance : TCell Try.prog 150 := ⟨by kernel_rfl⟩
instance : TZero Try.prog 150 [.nilFunc] := ⟨by kernel_rfl⟩
instance : TFn Try.prog 150 := ⟨by kernel_rfl⟩
instance : TSize Try.prog 151 4 := ⟨by kernel_rfl⟩
instance : TBytes Try.prog 151 40 := ⟨by kernel_rfl⟩
instance : TAgg Try.prog 151 := ⟨by kernel_rfl⟩
instance : TZero Try.prog 151 [.pointer none, .pointer none, .pointer none, .string ByteArray.empty] := ⟨by kernel_rfl⟩
instance : FieldOff Try.prog 151 0 0 17 1 := ⟨by kernel_rfl⟩
instance : FieldOff Try.prog 151 1 1 17 1 := ⟨by kernel_rfl⟩
instance : FieldOff Try.prog 151 2 2 17 1 := ⟨by kernel_rfl⟩
instance : FieldOff Try.prog 151 3 3 9 1 := ⟨by kernel_rfl⟩
instance : TStructOk Try.prog 151 := ⟨by kernel_rfl⟩
instance : TStruct Try.prog 151 [(0, 1), (1, 1), (2, 1), (3, 1)] := ⟨by kernel_rfl⟩
instance : TSize Try.prog 152 4 := ⟨by kernel_rfl⟩
instance : TBytes Try.prog 152 40 := ⟨by kernel_rfl⟩
instance : TAgg Try.prog 152 := ⟨by kernel_rfl⟩
instance : TZero Try.prog 152 [.pointer none, .pointer none, .pointer none, .string ByteArray.empty] := ⟨by kernel_rfl⟩
instance : FieldOff Try.prog 152 0 0 17 1 := ⟨by kernel_rfl⟩
instance : FieldOff Try.prog 152 1 1 17 1 := ⟨by kernel_rfl⟩
instance : FieldOff Try.prog 152 2 2 17 1 := ⟨by kernel_rfl⟩
instance : FieldOff Try.prog 152 3 3 9 1 := ⟨by kernel_rfl⟩
instance : TStructOk Try.prog 152 := ⟨by kernel_rfl⟩
instance : TStruct Try.prog 152 [(0, 1), (1, 1), (2, 1), (3, 1)] := ⟨by kernel_rfl⟩
instance : TSize Try.prog 153 0 := ⟨by kernel_rfl⟩
instance : TBytes Try.prog 153 0 := ⟨by kernel_rfl⟩
instance : TAgg Try.prog 153 := ⟨by kernel_rfl⟩
instance : TZero Try.prog 153 [] := ⟨by kernel_rfl⟩
instance : TArr Try.prog 153 0 16 := ⟨by kernel_rfl⟩
instance : TSize Try.prog 154 0 := ⟨by kernel_rfl⟩
instance : TBytes Try.prog 154 0 := ⟨by kernel_rfl⟩
instance : TAgg Try.prog 154 := ⟨by kernel_rfl⟩
instance : TZero Try.prog 154 [] := ⟨by kernel_rfl⟩
instance : FieldOff Try.prog 154 0 0 153 0 := ⟨by kernel_rfl⟩
instance : TStructOk Try.prog 154 := ⟨by kernel_rfl⟩
instance : TStruct Try.prog 154 [(0, 0)] := ⟨by kernel_rfl⟩
instance : TSize Try.prog 155 0 := ⟨by kernel_rfl⟩
instance : TBytes Try.prog 155 0 := ⟨by kernel_rfl⟩
instance : TAgg Try.prog 155 := ⟨by kernel_rfl⟩
instance : TZero Try.prog 155 [] := ⟨by kernel_rfl⟩
instance : FieldOff Try.prog 155 0 0 153 0 := ⟨by kernel_rfl⟩
instance : TStructOk Try.prog 155 := ⟨by kernel_rfl⟩
instance : TStruct Try.prog 155 [(0, 0)] := ⟨by kernel_rfl⟩
instance : TSize Try.prog 156 1 := ⟨by kernel_rfl⟩
instance : TBytes Try.prog 156 1 := ⟨by kernel_rfl⟩
instance : TCell Try.prog 156 := ⟨by kernel_rfl⟩
instance : TZero Try.prog 156 [.int .u8 0] := ⟨by kernel_rfl⟩
instance : TInt Try.prog 156 .u8 := ⟨by kernel_rfl⟩
instance : TSize Try.prog 157 1 := ⟨by kernel_rfl⟩
instance : TBytes Try.prog 157 1 := ⟨by kernel_rfl⟩
instance : TCell Try.prog 157 := ⟨by kernel_rfl⟩
instance : TZero Try.prog 157 [.int .u8 0] := ⟨by kernel_rfl⟩
instance : TInt Try.prog 157 .u8 := ⟨by kernel_rfl⟩
instance : TSize Try.prog 158 1 := ⟨by kernel_rfl⟩
instance : TBytes Try.prog 158 8 := ⟨by kernel_rfl⟩
instance : TCell Try.prog 158 := ⟨by kernel_rfl⟩
instance : TZero Try.prog 158 [.nilFunc] := ⟨by kernel_rfl⟩
instance : TFn Try.prog 158 := ⟨by kernel_rfl⟩
instance : TSize Try.prog 159 1 := ⟨by kernel_rfl⟩
instance : TBytes Try.prog 159 8 := ⟨by kernel_rfl⟩
instance : TCell Try.prog 159 := ⟨by kernel_rfl⟩
instance : TZero Try.prog 159 [.pointer none] := ⟨by kernel_rfl⟩
instance : TPtr Try.prog 159 5 := ⟨by kernel_rfl⟩
instance : TSize Try.prog 160 1 := ⟨by kernel_rfl⟩
instance : TBytes Try.prog 160 4 := ⟨by kernel_rfl⟩
instance : TCell Try.prog 160 := ⟨by kernel_rfl⟩
instance : TZero Try.prog 160 [.int .i32 0] := ⟨by kernel_rfl⟩
instance : TInt Try.prog 160 .i32 := ⟨by kernel_rfl⟩
instance : TSize Try.prog 161 1 := ⟨by kernel_rfl⟩
instance : TBytes Try.prog 161 4 := ⟨by kernel_rfl⟩
instance : TCell Try.prog 161 := ⟨by kernel_rfl⟩
instance : TZero Try.prog 161 [.int .i32 0] := ⟨by kernel_rfl⟩
instance : TInt Try.prog 161 .i32 := ⟨by kernel_rfl⟩
instance : TSize Try.prog 162 11 := ⟨by kernel_rfl⟩
instance : TBytes Try.prog 162 48 := ⟨by kernel_rfl⟩
instance : TAgg Try.prog 162 := ⟨by kernel_rfl⟩
instance : TZero Try.prog 162 [.int .u64 0, .int .u64 0, .int .u32 0, .int .u8 0, .int .u8 0, .int .u8 0, .int .u8 0, .nilFunc, .pointer none, .int .i32 0, .int .i32 0] := ⟨by kernel_rfl⟩
instance : FieldOff Try.prog 162 0 0 12 1 := ⟨by kernel_rfl⟩
instance : FieldOff Try.prog 162 1 1 12 1 := ⟨by kernel_rfl⟩
instance : FieldOff Try.prog 162 2 2 91 1 := ⟨by kernel_rfl⟩
instance : FieldOff Try.prog 162 3 3 156 1 := ⟨by kernel_rfl⟩
instance : FieldOff Try.prog 162 4 4 5 1 := ⟨by kernel_rfl⟩
instance : FieldOff Try.prog 162 5 5 5 1 := ⟨by kernel_rfl⟩
instance : FieldOff Try.prog 162 6 6 157 1 := ⟨by kernel_rfl⟩
instance : FieldOff Try.prog 162 7 7 158 1 := ⟨by kernel_rfl⟩
instance : FieldOff Try.prog 162 8 8 159 1 := ⟨by kernel_rfl⟩
instance : FieldOff Try.prog 162 9 9 160 1 := ⟨by kernel_rfl⟩
instance : FieldOff Try.prog 162 10 10 161 1 := ⟨by kernel_rfl⟩
instance : TStructOk Try.prog 162 := ⟨by kernel_rfl⟩
instance : TStruct Try.prog 162 [(0, 1), (1, 1), (2, 1), (3, 1), (4, 1), (5, 1), (6, 1), (7, 1), (8, 1), (9, 1), (10, 1)] := ⟨by kernel_rfl⟩
instance : TSize Try.prog 163 11 := ⟨by kernel_rfl⟩
instance : TBytes Try.prog 163 48 := ⟨by kernel_rfl⟩
instance : TAgg Try.prog 163 := ⟨by kernel_rfl⟩
instance : TZero Try.prog 163 [.int .u64 0, .int .u64 0, .int .u32 0, .int .u8 0, .int .u8 0, .int .u8 0, .int .u8 0, .nilFunc, .pointer none, .int .i32 0, .int .i32 0] := ⟨by kernel_rfl⟩
instance : FieldOff Try.prog 163 0 0 12 1 := ⟨by kernel_rfl⟩
instance : FieldOff Try.prog 163 1 1 12 1 := ⟨by kernel_rfl⟩
instance : FieldOff Try.prog 163 2 2 91 1 := ⟨by kernel_rfl⟩
instance : FieldOff Try.prog 163 3 3 156 1 := ⟨by kernel_rfl⟩
instance : FieldOff Try.prog 163 4 4 5 1 := ⟨by kernel_rfl⟩
instance : FieldOff Try.prog 163 5 5 5 1 := ⟨by kernel_rfl⟩
instance : FieldOff Try.prog 163 6 6 157 1 := ⟨by kernel_rfl⟩
instance : FieldOff Try.prog 163 7 7 158 1 := ⟨by kernel_rfl⟩
instance : FieldOff Try.prog 163 8 8 159 1 := ⟨by kernel_rfl⟩
instance : FieldOff Try.prog 163 9 9 160 1 := ⟨by kernel_rfl⟩
instance : FieldOff Try.prog 163 10 10 161 1 := ⟨by kernel_rfl⟩
instance : TStructOk Try.prog 163 := ⟨by kernel_rfl⟩
instance : TStruct Try.prog 163 [(0, 1), (1, 1), (2, 1), (3, 1), (4, 1), (5, 1), (6, 1), (7, 1), (8, 1), (9, 1), (10, 1)] := ⟨by kernel_rfl⟩
instance : TSize Try.prog 164 7 := ⟨by kernel_rfl⟩
instance : TBytes Try.prog 164 72 := ⟨by kernel_rfl⟩
instance : TAgg Try.prog 164 := ⟨by kernel_rfl⟩
instance : TZero Try.prog 164 [.int .i64 0, .int .i64 0, .int .i64 0, .int .i64 0, .string ByteArray.empty, .bool false, .string ByteArray.empty] := ⟨by kernel_rfl⟩
instance : FieldOff Try.prog 164 0 0 46 2 := ⟨by kernel_rfl⟩
instance : FieldOff Try.prog 164 1 2 3 1 := ⟨by kernel_rfl⟩
instance : FieldOff Try.prog 164 2 3 3 1 := ⟨by kernel_rfl⟩
instance : FieldOff Try.prog 164 3 4 9 1 := ⟨by kernel_rfl⟩
instance : FieldOff Try.prog 164 4 5 4 1 := ⟨by kernel_rfl⟩
instance : FieldOff Try.prog 164 5 6 9 1 := ⟨by kernel_rfl⟩
instance : TStructOk Try.prog 164 := ⟨by kernel_rfl⟩
instance : TStruct Try.prog 164 [(0, 2), (2, 1), (3, 1), (4, 1), (5, 1), (6, 1)] := ⟨by kernel_rfl⟩
instance : TEq Try.prog 164 [.i .i64, .i .i64, .i .i64, .i .i64, .s, .b, .s] := ⟨by kernel_rfl, by kernel_rfl⟩
instance : TSize Try.prog 165 7 := ⟨by kernel_rfl⟩
instance : TBytes Try.prog 165 72 := ⟨by kernel_rfl⟩
instance : TAgg Try.prog 165 := ⟨by kernel_rfl⟩
instance : TZero Try.prog 165 [.int .i64 0, .int .i64 0, .int .i64 0, .int .i64 0, .string ByteArray.empty, .bool false, .string ByteArray.empty] := ⟨by kernel_rfl⟩
instance : FieldOff Try.prog 165 0 0 46 2 := ⟨by kernel_rfl⟩
instance : FieldOff Try.prog 165 1 2 3 1 := ⟨by kernel_rfl⟩
instance : FieldOff Try.prog 165 2 3 3 1 := ⟨by kernel_rfl⟩
instance : FieldOff Try.prog 165 3 4 9 1 := ⟨by kernel_rfl⟩
instance : FieldOff Try.prog 165 4 5 4 1 := ⟨by kernel_rfl⟩
instance : FieldOff Try.prog 165 5 6 9 1 := ⟨by kernel_rfl⟩
instance : TStructOk Try.prog 165 := ⟨by kernel_rfl⟩
instance : TStruct Try.prog 165 [(0, 2), (2, 1), (3, 1), (4, 1), (5, 1), (6, 1)] := ⟨by kernel_rfl⟩
instance : TEq Try.prog 165 [.i .i64, .i .i64, .i .i64, .i .i64, .s, .b, .s] := ⟨by kernel_rfl, by kernel_rfl⟩
instance : TSize Try.prog 166 5 := ⟨by kernel_rfl⟩
instance : TBytes Try.prog 166 56 := ⟨by kernel_rfl⟩
instance : TAgg Try.prog 166 := ⟨by kernel_rfl⟩
instance : TZero Try.prog 166 [.string ByteArray.empty, .int .i64 0, .int .i64 0, .bool false, .string ByteArray.empty] := ⟨by kernel_rfl⟩
instance : FieldOff Try.prog 166 0 0 9 1 := ⟨by kernel_rfl⟩
instance : FieldOff Try.prog 166 1 1 50 4 := ⟨by kernel_rfl⟩
instance : TStructOk Try.prog 166 := ⟨by kernel_rfl⟩
instance : TStruct Try.prog 166 [(0, 1), (1, 4)] := ⟨by kernel_rfl⟩
instance : TEq Try.prog 166 [.s, .i .i64, .i .i64, .b, .s] := ⟨by kernel_rfl, by kernel_rfl⟩
instance : TSize Try.prog 167 5 := ⟨by kernel_rfl⟩
instance : TBytes Try.prog 167 56 := ⟨by kernel_rfl⟩
instance : TAgg Try.prog 167 := ⟨by kernel_rfl⟩
instance : TZero Try.prog 167 [.string ByteArray.empty, .int .i64 0, .int .i64 0, .bool false, .string ByteArray.empty] := ⟨by kernel_rfl⟩
instance : FieldOff Try.prog 167 0 0 9 1 := ⟨by kernel_rfl⟩
instance : FieldOff Try.prog 167 1 1 50 4 := ⟨by kernel_rfl⟩
instance : TStructOk Try.prog 167 := ⟨by kernel_rfl⟩
instance : TStruct Try.prog 167 [(0, 1), (1, 4)] := ⟨by kernel_rfl⟩
instance : TEq Try.prog 167 [.s, .i .i64, .i .i64, .b, .s] := ⟨by kernel_rfl, by kernel_rfl⟩
instance : TSize Try.prog 168 4 := ⟨by kernel_rfl⟩
instance : TBytes Try.prog 168 32 := ⟨by kernel_rfl⟩
instance : TAgg Try.prog 168 := ⟨by kernel_rfl⟩
instance : TZero Try.prog 168 [.int .i64 0, .int .i64 0, .int .i64 0, .int .i64 0] := ⟨by kernel_rfl⟩
instance : FieldOff Try.prog 168 0 0 3 1 := ⟨by kernel_rfl⟩
instance : FieldOff Try.prog 168 1 1 3 1 := ⟨by kernel_rfl⟩
instance : FieldOff Try.prog 168 2 2 46 2 := ⟨by kernel_rfl⟩
instance : TStructOk Try.prog 168 := ⟨by kernel_rfl⟩
instance : TStruct Try.prog 168 [(0, 1), (1, 1), (2, 2)] := ⟨by kernel_rfl⟩
instance : TEq Try.prog 168 [.i .i64, .i .i64, .i .i64, .i .i64] := ⟨by kernel_rfl, by kernel_rfl⟩
instance : TSize Try.prog 169 4 := ⟨by kernel_rfl⟩
instance : TBytes Try.prog 169 32 := ⟨by kernel_rfl⟩
instance : TAgg Try.prog 169 := ⟨by kernel_rfl⟩
instance : TZero Try.prog 169 [.int .i64 0, .int .i64 0, .int .i64 0, .int .i64 0] := ⟨by kernel_rfl⟩
instance : FieldOff Try.prog 169 0 0 3 1 := ⟨by kernel_rfl⟩
instance : FieldOff Try.prog 169 1 1 3 1 := ⟨by kernel_rfl⟩
instance : FieldOff Try.prog 169 2 2 46 2 := ⟨by kernel_rfl⟩
instance : TStructOk Try.prog 169 := ⟨by kernel_rfl⟩
instance : TStruct Try.prog 169 [(0, 1), (1, 1), (2, 2)] := ⟨by kernel_rfl⟩
instance : TEq Try.prog 169 [.i .i64, .i .i64, .i .i64, .i .i64] := ⟨by kernel_rfl, by kernel_rfl⟩
instance : TSize Try.prog 170 1 := ⟨by kernel_rfl⟩
instance : TBytes Try.prog 170 8 := ⟨by kernel_rfl⟩
instance : TCell Try.prog 170 := ⟨by kernel_rfl⟩
instance : TZero Try.prog 170 [.nilFunc] := ⟨by kernel_rfl⟩
instance : TFn Try.prog 170 := ⟨by kernel_rfl⟩
instance : TSize Try.prog 171 1 := ⟨by kernel_rfl⟩
instance : TBytes Try.prog 171 8 := ⟨by kernel_rfl⟩
instance : TCell Try.prog 171 := ⟨by kernel_rfl⟩
instance : HasBody Try.prog 3 := ⟨by kernel_rfl⟩
instance : HasBody Try.prog 4 := ⟨by kernel_rfl⟩
instance : HasBody Try.prog 5 := ⟨by kernel_rfl⟩
instance : HasBody Try.prog 6 := ⟨by kernel_rfl⟩
instance : HasBody Try.prog 7 := ⟨by kernel_rfl⟩
instance : HasBody Try.prog 8 := ⟨by kernel_rfl⟩
instance : HasBody Try.prog 9 := ⟨by kernel_rfl⟩
instance : HasBody Try.prog 10 := ⟨by kernel_rfl⟩
instance : HasBody Try.prog 11 := ⟨by kernel_rfl⟩
instance : HasBody Try.prog 12 := ⟨by kernel_rfl⟩
instance : HasBody Try.prog 13 := ⟨by kernel_rfl⟩
instance : HasBody Try.prog 14 := ⟨by kernel_rfl⟩
instance : HasBody Try.prog 15 := ⟨by kernel_rfl⟩
instance : HasBody Try.prog 16 := ⟨by kernel_rfl⟩
instance : HasBody Try.prog 17 := ⟨by kernel_rfl⟩
instance : HasBody Try.prog 18 := ⟨by kernel_rfl⟩
instance : HasBody Try.prog 19 := ⟨by kernel_rfl⟩
instance : HasBody Try.prog 20 := ⟨by kernel_rfl⟩
instance : HasBody Try.prog 21 := ⟨by kernel_rfl⟩
instance : HasBody Try.prog 22 := ⟨by kernel_rfl⟩
instance : HasBody Try.prog 23 := ⟨by kernel_rfl⟩
instance : HasBody Try.prog 24 := ⟨by kernel_rfl⟩
instance : HasBody Try.prog 25 := ⟨by kernel_rfl⟩
instance : HasBody Try.prog 26 := ⟨by kernel_rfl⟩
instance : HasBody Try.prog 27 := ⟨by kernel_rfl⟩
instance : HasBody Try.prog 28 := ⟨by kernel_rfl⟩
instance : HasBody Try.prog 29 := ⟨by kernel_rfl⟩
instance : HasBody Try.prog 30 := ⟨by kernel_rfl⟩
instance : HasBody Try.prog 31 := ⟨by kernel_rfl⟩
instance : HasBody Try.prog 32 := ⟨by kernel_rfl⟩
instance : HasBody Try.prog 33 := ⟨by kernel_rfl⟩
instance : HasBody Try.prog 34 := ⟨by kernel_rfl⟩
instance : HasBody Try.prog 35 := ⟨by kernel_rfl⟩
instance : HasBody Try.prog 36 := ⟨by kernel_rfl⟩
instance : HasBody Try.prog 37 := ⟨by kernel_rfl⟩
instance : HasBody Try.prog 38 := ⟨by kernel_rfl⟩
instance : HasBody Try.prog 39 := ⟨by kernel_rfl⟩
instance : HasBody Try.prog 40 := ⟨by kernel_rfl⟩
instance : HasBody Try.prog 41 := ⟨by kernel_rfl⟩
instance : HasBody Try.prog 42 := ⟨by kernel_rfl⟩
instance : HasBody Try.prog 43 := ⟨by kernel_rfl⟩
instance : HasBody Try.prog 44 := ⟨by kernel_rfl⟩
instance : HasBody Try.prog 46 := ⟨by kernel_rfl⟩
instance : HasBody Try.prog 47 := ⟨by kernel_rfl⟩
instance : HasBody Try.prog 48 := ⟨by kernel_rfl⟩
instance : HasBody Try.prog 49 := ⟨by kernel_rfl⟩
instance : HasBody Try.prog 50 := ⟨by kernel_rfl⟩
instance : HasBody Try.prog 52 := ⟨by kernel_rfl⟩
instance : HasBody Try.prog 53 := ⟨by kernel_rfl⟩
instance : HasBody Try.prog 54 := ⟨by kernel_rfl⟩
instance : HasBody Try.prog 55 := ⟨by kernel_rfl⟩
instance : HasBody Try.prog 56 := ⟨by kernel_rfl⟩
instance : HasBody Try.prog 57 := ⟨by kernel_rfl⟩
instance : HasBody Try.prog 58 := ⟨by kernel_rfl⟩
instance : HasBody Try.prog 59 := ⟨by kernel_rfl⟩
instance : HasBody Try.prog 60 := ⟨by kernel_rfl⟩
instance : HasBody Try.prog 61 := ⟨by kernel_rfl⟩
end Go.Proofs.Ytepeljbgekgjcaa
/- Package disk: what each of its functions does, over the logic of XSl. Conditions: numbers of steps far from the kind's edges. -/
set_option maxHeartbeats 8000000
set_option linter.unusedVariables false
set_option linter.unusedSimpArgs false
set_option maxRecDepth 100000
namespace Go.Proofs.Ytepeljbgekgjcaa
open Go Go.Sl
attribute [local irreducible] Go.Sl.Wl Go.Sl.Wc Go.Sl.thenQ Go.Sl.blkQ Go.Sl.loopQ Go.Sl.Fspec

/-! ### What a disk is -/
structure Dk where
  kept : List UInt8
  pend : List (Nat × List UInt8)
  fuse : Int
  down : Bool
  steps : Int
def pcells (l : List (Nat × List UInt8)) : List Value := l.flatMap fun q => .int .i64 q.1 :: q.2.map byteV
structure Dk.ok (D : Dk) (n : Nat) : Prop where
  len : D.kept.length = 64 * n
  pend : ∀ q ∈ D.pend, q.1 < n ∧ q.2.length = 64
  few : D.pend.length ≤ 1000000
  fuse : -1 ≤ D.fuse ∧ D.fuse ≤ 9223372036854775807
  steps : 0 ≤ D.steps ∧ D.steps ≤ 4611686018427387904
  n : 1 ≤ n ∧ n ≤ 4096
def DiskL (p n : Nat) (D : Dk) (bk : Nat) (pa : Option Addr) (pc : Nat) : List Asn :=
  [cb p [.slice (some ⟨bk, 0, none⟩) n n, .slice pa D.pend.length pc, .int .i64 D.fuse, .bool D.down, .int .i64 D.steps] 77,
   cb bk (D.kept.map byteV) 102, own pa D.pend.length pc 65 (pcells D.pend) 104]
def DiskP (p n : Nat) (D : Dk) : Asn := exN fun x : Nat × Option Addr × Nat => DiskL p n D x.1 x.2.1 x.2.2
def Dk.new (n : Nat) : Dk := { kept := List.replicate (64 * n) 0, pend := [], fuse := -1, down := false, steps := 0 }
theorem Dk.new_ok (n : Nat) (h : 1 ≤ n ∧ n ≤ 4096) : (Dk.new n).ok n := ⟨by simp [Dk.new], by simp [Dk.new], by simp [Dk.new], by simp [Dk.new], by simp [Dk.new], h⟩

/-- A step that is done. -/
def Dk.tick (D : Dk) : Dk := { D with fuse := if 0 < D.fuse then D.fuse - 1 else D.fuse, steps := D.steps + 1 }
def Dk.dead (D : Dk) : Dk := { D with down := true }
theorem fold_disk {p n : Nat} {D : Dk} {bk : Nat} {pa : Option Addr} {pc : Nat} {X A0 : List Asn} (h : Ent X (DiskL p n D bk pa pc ++ A0)) : Ent X (DiskP p n D :: A0) :=
  h.trans (Ent.exN_shut (f := fun x : Nat × Option Addr × Nat => DiskL p n D x.1 x.2.1 x.2.2) (bk, pa, pc) A0)
theorem pcells_snoc (l : List (Nat × List UInt8)) (i : Nat) (b : List UInt8) : pcells (l ++ [(i, b)]) = pcells l ++ (Value.int .i64 i :: b.map byteV) := by simp [pcells]
theorem pcells_length (l : List (Nat × List UInt8)) (h : ∀ q ∈ l, q.2.length = 64) : (pcells l).length = l.length * 65 := by
  induction l with
  | nil => rfl
  | cons q l ih =>
    have h1 := h q (List.mem_cons_self ..)
    have h2 := ih (fun x hx => h x (List.mem_cons_of_mem _ hx))
    simp only [pcells] at h2
    simp [pcells, h1, h2]; omega
theorem take_snoc' {α : Type} {l : List α} {k : Nat} {q : α} (h : l[k]? = some q) : l.take (k + 1) = l.take k ++ [q] := by rw [List.take_add_one, h]; rfl
theorem take64 (l : List UInt8) (h : l.length = 64) : List.take 64 (l.map byteV) = l.map byteV := List.take_of_length_le (by simp [h])
theorem int_succ (k : Nat) : Value.int .i64 ((k : Int) + 1) = Value.int .i64 ((k + 1 : Nat) : Int) := by simp
theorem cell_all (i : Int) (l : List UInt8) : (Value.int .i64 i :: l.map byteV).all isCell = true := by simp [byteV, isCell]
theorem byteV_all (l : List UInt8) : (l.map byteV).all isCell = true := by simp [byteV, isCell]

theorem zr_eq (n : Nat) : cyc zr64_intu80 (n * 64) = (List.replicate (64 * n) (0 : UInt8)).map byteV := by
  unfold zr64_intu80
  rw [cyc_rep _ _ _ (by omega), List.map_replicate, Nat.mul_comm]; rfl

/-! ### The atomic counter -/
theorem add_run {a : Addr} {x y : Int} {w : World} (hc : w.cell? a = some (.int .i64 x)) (hz : w.frozen? a = false) :
    (callFunc 62 #[.pointer (some a), .int .i64 y]).run Try.prog w = .ok (.value (.int .i64 (IntKind.i64.wrap (x + y)))) (w.setCell a (.int .i64 (IntKind.i64.wrap (x + y)))) :=
  run_call_add Try.func62 (by kernel_rfl) (by kernel_rfl) (by kernel_rfl) .i64 (by kernel_rfl) hc hz rfl

/-! ### Sectors and pending writes -/
def seen1 (i : Nat) (s : List UInt8) (q : Nat × List UInt8) : List UInt8 := if q.1 = i then q.2 else s
/-- What is read of a sector. -/
def Dk.seen (D : Dk) (i : Nat) : List UInt8 := D.pend.foldl (seen1 i) ((D.kept.drop (64 * i)).take 64)
theorem seen_length (i : Nat) : ∀ (l : List (Nat × List UInt8)) (s : List UInt8), s.length = 64 → (∀ q ∈ l, q.2.length = 64) → (l.foldl (seen1 i) s).length = 64
  | [], s, h, _ => h
  | q :: l, s, h, hl => seen_length i l _ (by unfold seen1; split; exact hl q (List.mem_cons_self ..); exact h) (fun x hx => hl x (List.mem_cons_of_mem _ hx))
def putK (K : List UInt8) (q : Nat × List UInt8) : List UInt8 := K.take (64 * q.1) ++ (q.2 ++ K.drop (64 * q.1 + 64))
def flush (K : List UInt8) (l : List (Nat × List UInt8)) : List UInt8 := l.foldl putK K
theorem putK_length (K : List UInt8) (q : Nat × List UInt8) (n : Nat) (h : K.length = 64 * n) (h1 : q.1 < n) (h2 : q.2.length = 64) : (putK K q).length = 64 * n := by
  simp [putK, h2]; omega
theorem flush_length (n : Nat) : ∀ (l : List (Nat × List UInt8)) (K : List UInt8), K.length = 64 * n → (∀ q ∈ l, q.1 < n ∧ q.2.length = 64) → (flush K l).length = 64 * n
  | [], K, h, _ => h
  | q :: l, K, h, hl => flush_length n l _ (putK_length K q n h (hl q (List.mem_cons_self ..)).1 (hl q (List.mem_cons_self ..)).2) (fun x hx => hl x (List.mem_cons_of_mem _ hx))
def Dk.put (D : Dk) (i : Nat) (bs : List UInt8) : Dk := { D.tick with pend := D.pend ++ [(i, bs)] }
def Dk.sync (D : Dk) : Dk := { D.tick with kept := flush D.kept D.pend, pend := [] }
theorem Dk.put_ok {D : Dk} {n i : Nat} {bs : List UInt8} (h : D.ok n) (hi : i < n) (hb : bs.length = 64) (hp : D.pend.length ≤ 999999) (hs : D.steps ≤ 4611686018427387903) : (D.put i bs).ok n := by
  have hf := h.fuse; have h0 := h.steps
  refine ⟨h.len, fun q hq => ?_, by simp [Dk.put]; omega, ?_, by simp [Dk.put, Dk.tick]; omega, h.n⟩
  · rcases List.mem_append.1 hq with hq | hq
    · exact h.pend q hq
    · simp at hq; subst hq; exact ⟨hi, hb⟩
  · simp only [Dk.put, Dk.tick]; split <;> omega
theorem Dk.sync_ok {D : Dk} {n : Nat} (h : D.ok n) (hs : D.steps ≤ 4611686018427387903) : D.sync.ok n := by
  have hf := h.fuse; have h0 := h.steps
  refine ⟨flush_length n _ _ h.len h.pend, by simp [Dk.sync], by simp [Dk.sync], ?_, by simp [Dk.sync, Dk.tick]; omega, h.n⟩
  simp only [Dk.sync, Dk.tick]; split <;> omega
theorem Dk.dead_ok {D : Dk} {n : Nat} (h : D.ok n) : D.dead.ok n := ⟨h.len, h.pend, h.few, h.fuse, h.steps, h.n⟩
theorem flush_snoc (K : List UInt8) (l : List (Nat × List UInt8)) (q : Nat × List UInt8) : flush K (l ++ [q]) = putK (flush K l) q := by simp [flush]
theorem pcells_cons (q : Nat × List UInt8) (l : List (Nat × List UInt8)) : pcells (q :: l) = .int .i64 q.1 :: (q.2.map byteV ++ pcells l) := by simp [pcells]
theorem pcells_get : ∀ (l : List (Nat × List UInt8)) (k : Nat) (q : Nat × List UInt8) (sp : List Value), (∀ x ∈ l, x.2.length = 64) → l[k]? = some q →
    ((pcells l ++ sp).drop (k * 65)).take 65 = .int .i64 q.1 :: q.2.map byteV
  | x :: l, 0, q, sp, h, hk => by
    have h1 := h x (List.mem_cons_self ..)
    simp at hk; subst hk
    rw [pcells_cons, Nat.zero_mul, List.drop_zero, List.cons_append, List.take_succ_cons, List.append_assoc, List.take_append_of_le_length (by simp [h1]), List.take_of_length_le (by simp [h1])]
  | x :: l, k + 1, q, sp, h, hk => by
    have h1 := h x (List.mem_cons_self ..)
    have h2 := pcells_get l k q sp (fun y hy => h y (List.mem_cons_of_mem _ hy)) (by simpa using hk)
    have h3 : pcells (x :: l) ++ sp = (.int .i64 x.1 :: x.2.map byteV) ++ (pcells l ++ sp) := by rw [pcells_cons]; simp
    rw [h3, show (k + 1) * 65 = (Value.int IntKind.i64 x.1 :: x.2.map byteV).length + k * 65 by simp [h1]; omega, ← List.drop_drop, List.drop_left]
    exact h2
theorem setL_putK (K : List UInt8) (q : Nat × List UInt8) (n : Nat) (h : K.length = 64 * n) (h1 : q.1 < n) (h2 : q.2.length = 64) :
    setL (K.map byteV) (q.1 * 64) (q.2.map byteV) = (putK K q).map byteV := by
  rw [setL_eq _ _ _ (by simp [h, h2]; omega)]
  simp [putK, h2, Nat.mul_comm]

section specs
variable (B : Base)
theorem Add_spec (p off : Nat) (l l' : List Value) (E : TypeId) (x y : Int) (hx : l[off]? = some (.int .i64 x)) (hl : SetAt l off (.int .i64 (x + y)) l') (hf : fitsK .i64 (x + y)) :
    Fspec Try.prog B 61 #[.pointer (some ⟨p, off, none⟩), .int .i64 y] [cb p l E] (fun v A' => v = .int .i64 (x + y) ∧ A' = [cb p l' E]) := by
  have hrun : ∀ w R, Sat B w (R :: [cb p l E]) → ∃ w', (callFunc 62 #[.pointer (some ⟨p, off, none⟩), .int .i64 y]).run Try.prog w = .ok (.value (.int .i64 (x + y))) w' ∧ Sat B w' (R :: [cb p l' E]) := fun w R hs => by
    have hh := (hs.get (List.mem_cons_of_mem R (List.mem_cons_self ..))).2
    obtain ⟨hlt, rfl⟩ := hl.out
    have hc := cell_of_heap hh hx
    have hz : w.frozen? ⟨p, off, none⟩ = false := by simp [World.frozen?, hh]
    have hr := add_run (y := y) hc hz
    rw [hf] at hr
    exact ⟨_, hr, Upd.head.sat (Io.refl w : Io w (w.setCell _ _)) (setCell_size _).symm (fun x hx => setCell_ne _ hx) (setCell_heap _ hh) hs⟩
  refine spec_of (args := [_, _]) Try.func61 rfl rfl rfl ?_
  repeat' (first
    | refine Wc_seq ?_
    | refine thenQ_normal ?_
    | refine Wc_cond_t (h := ?_)
    | refine Wc_cond_f (h := ?_)
    | refine Wc_ret ?_
    | refine thenQ_ret ?_
    | refine Wc_block ?_
    | refine blkQ_normal ?_
    | refine blkQ_ret ?_
    | refine Wc_exit ?_
    | refine thenQ_exit ?_
    | refine blkQ_hit ?_
    | refine blkQ_miss rfl ?_
    | refine Wc_skip ?_
    | refine Wc_label ?_
    | refine loopQ_exit ?_
    | refine loopQ_ret ?_
    | refine loopQ_normal ?_
    | (refine Wc_region (id := 0) ?_; intro K hK; refine Wl_assign (k := ?_); (refine Wl_nil (hK _ _ ?_); clear hK K))
    | (refine Wc_region (id := 1) ?_; intro K hK; refine Wl_move (k := ?_); refine Wl_nilCheck (k := ?_); refine Wl_fieldAddr (k := ?_); refine Wl_move (k := ?_); ((refine Wl_callX (hrun := hrun) (k := ?_))) <;> (refine Wl_assign (k := ?_); (refine Wl_nil (hK _ _ ?_); clear hK K)))
    | (refine Wc_cond (ht := (fun ht => ?_)) (hf := (fun ht => ?_)) <;> (try simp at ht) <;> (try (exfalso; omega))))
  refine ⟨Or.inr rfl, _, _, Ent.refl _, res1 rfl rfl, ?_⟩; exact ⟨rfl, rfl⟩

theorem step_no (p : Nat) (x y : Value) (fuse steps : Int) (down : Bool) (h : down = true ∨ fuse = 0) :
    Fspec Try.prog B 60 #[.pointer (some ⟨p, 0, none⟩)] [cb p [x, y, .int .i64 fuse, .bool down, .int .i64 steps] 77]
      (fun v A' => v = .bool false ∧ A' = [cb p [x, y, .int .i64 fuse, .bool true, .int .i64 steps] 77]) := by
  refine spec_of (args := [_]) Try.func60 rfl rfl rfl ?_
  repeat' (first
    | refine Wc_seq ?_
    | refine thenQ_normal ?_
    | refine Wc_cond_t (h := ?_)
    | refine Wc_cond_f (h := ?_)
    | refine Wc_ret ?_
    | refine thenQ_ret ?_
    | refine Wc_block ?_
    | refine blkQ_normal ?_
    | refine blkQ_ret ?_
    | refine Wc_exit ?_
    | refine thenQ_exit ?_
    | refine blkQ_hit ?_
    | refine blkQ_miss rfl ?_
    | refine Wc_skip ?_
    | refine Wc_label ?_
    | refine loopQ_exit ?_
    | refine loopQ_ret ?_
    | refine loopQ_normal ?_
    | (refine Wc_region (id := 0) ?_; intro K hK; refine Wl_assign (k := ?_); (refine Wl_nil (hK _ _ ?_); clear hK K))
    | (refine Wc_region (id := 1) ?_; intro K hK; refine Wl_move (k := ?_); refine Wl_nilCheck (k := ?_); refine Wl_fieldAddr (k := ?_); refine Wl_load (k := ?_); refine Wl_move (k := ?_); ((first | (refine Wl_guard (k := ?_); refine Wl_move (k := ?_)) | refine Wl_gno (k := ?_) | ((refine Wl_split (yes := (fun ht => ?_)) (no := (fun ht => ?_)) <;> (try simp at ht) <;> (try (exfalso; omega))) <;> (first | (refine Wl_guard (k := ?_); refine Wl_move (k := ?_)) | refine Wl_gno (k := ?_))))) <;> (((first | (refine Wl_guard (k := ?_); refine Wl_nilCheck (k := ?_)) | refine Wl_gno (k := ?_) | ((refine Wl_split (yes := (fun ht => ?_)) (no := (fun ht => ?_)) <;> (try simp at ht) <;> (try (exfalso; omega))) <;> (first | (refine Wl_guard (k := ?_); refine Wl_nilCheck (k := ?_)) | refine Wl_gno (k := ?_))))) <;> (((first | (refine Wl_guard (k := ?_); refine Wl_fieldAddr (k := ?_)) | refine Wl_gno (k := ?_) | ((refine Wl_split (yes := (fun ht => ?_)) (no := (fun ht => ?_)) <;> (try simp at ht) <;> (try (exfalso; omega))) <;> (first | (refine Wl_guard (k := ?_); refine Wl_fieldAddr (k := ?_)) | refine Wl_gno (k := ?_))))) <;> (((first | (refine Wl_guard (k := ?_); refine Wl_load (k := ?_)) | refine Wl_gno (k := ?_) | ((refine Wl_split (yes := (fun ht => ?_)) (no := (fun ht => ?_)) <;> (try simp at ht) <;> (try (exfalso; omega))) <;> (first | (refine Wl_guard (k := ?_); refine Wl_load (k := ?_)) | refine Wl_gno (k := ?_))))) <;> (((first | (refine Wl_guard (k := ?_); refine Wl_eql (k' := ?_)) | refine Wl_gno (k := ?_) | ((refine Wl_split (yes := (fun ht => ?_)) (no := (fun ht => ?_)) <;> (try simp at ht) <;> (try (exfalso; omega))) <;> (first | (refine Wl_guard (k := ?_); refine Wl_eql (k' := ?_)) | refine Wl_gno (k := ?_))))) <;> ((first | refine Wl_pick_t (k := ?_) | refine Wl_pick_f (k := ?_) | refine Wl_pick (k := ?_)); (refine Wl_nil (hK _ _ ?_); clear hK K)))))))
    | (refine Wc_region (id := 2) ?_; intro K hK; refine Wl_move (k := ?_); refine Wl_nilCheck (k := ?_); refine Wl_fieldAddr (k := ?_); refine Wl_store (ho := rfl) (k := ?_); (refine Wl_nil (hK _ _ ?_); clear hK K))
    | (refine Wc_region (id := 3) ?_; intro K hK; refine Wl_assign (k := ?_); (refine Wl_nil (hK _ _ ?_); clear hK K))
    | (refine Wc_region (id := 4) ?_; intro K hK; refine Wl_move (k := ?_); refine Wl_nilCheck (k := ?_); refine Wl_fieldAddr (k := ?_); refine Wl_load (k := ?_); refine Wl_gtr (k' := ?_); (refine Wl_nil (hK _ _ ?_); clear hK K))
    | (refine Wc_region (id := 5) ?_; intro K hK; refine Wl_move (k := ?_); refine Wl_nilCheck (k := ?_); refine Wl_fieldAddr (k := ?_); refine Wl_load (k := ?_); refine Wl_sub (k' := ?_); refine Wl_nilCheck (k := ?_); refine Wl_fieldAddr (k := ?_); refine Wl_store (ho := rfl) (k := ?_); (refine Wl_nil (hK _ _ ?_); clear hK K))
    | (refine Wc_region (id := 6) ?_; intro K hK; refine Wl_move (k := ?_); refine Wl_nilCheck (k := ?_); refine Wl_fieldAddr (k := ?_))
    | (refine Wc_region (id := 7) ?_; intro K hK; refine Wl_assign (k := ?_); (refine Wl_nil (hK _ _ ?_); clear hK K))
    | (refine Wc_cond (ht := (fun ht => ?_)) (hf := (fun ht => ?_)) <;> (try simp at ht) <;> (try (exfalso; omega))))
  · refine ⟨Or.inr rfl, _, _, Ent.refl _, res1 rfl rfl, ?_⟩; exact ⟨rfl, rfl⟩
  · refine ⟨Or.inr rfl, _, _, Ent.refl _, res1 rfl rfl, ?_⟩; exact ⟨rfl, rfl⟩
  all_goals (exfalso; rcases h with h | h <;> simp_all)
theorem step_yes (p : Nat) (x y : Value) (fuse steps : Int) (hn : fuse ≠ 0) (hf : -1 ≤ fuse ∧ fuse ≤ 9223372036854775807) (hs : 0 ≤ steps ∧ steps ≤ 4611686018427387904) :
    Fspec Try.prog B 60 #[.pointer (some ⟨p, 0, none⟩)] [cb p [x, y, .int .i64 fuse, .bool false, .int .i64 steps] 77]
      (fun v A' => v = .bool true ∧ A' = [cb p [x, y, .int .i64 (if 0 < fuse then fuse - 1 else fuse), .bool false, .int .i64 (steps + 1)] 77]) := by
  refine spec_of (args := [_]) Try.func60 rfl rfl rfl ?_
  repeat' (first
    | refine Wc_seq ?_
    | refine thenQ_normal ?_
    | refine Wc_cond_t (h := ?_)
    | refine Wc_cond_f (h := ?_)
    | refine Wc_ret ?_
    | refine thenQ_ret ?_
    | refine Wc_block ?_
    | refine blkQ_normal ?_
    | refine blkQ_ret ?_
    | refine Wc_exit ?_
    | refine thenQ_exit ?_
    | refine blkQ_hit ?_
    | refine blkQ_miss rfl ?_
    | refine Wc_skip ?_
    | refine Wc_label ?_
    | refine loopQ_exit ?_
    | refine loopQ_ret ?_
    | refine loopQ_normal ?_
    | (refine Wc_region (id := 0) ?_; intro K hK; refine Wl_assign (k := ?_); (refine Wl_nil (hK _ _ ?_); clear hK K))
    | (refine Wc_region (id := 1) ?_; intro K hK; refine Wl_move (k := ?_); refine Wl_nilCheck (k := ?_); refine Wl_fieldAddr (k := ?_); refine Wl_load (k := ?_); refine Wl_move (k := ?_); ((first | (refine Wl_guard (k := ?_); refine Wl_move (k := ?_)) | refine Wl_gno (k := ?_) | ((refine Wl_split (yes := (fun ht => ?_)) (no := (fun ht => ?_)) <;> (try simp at ht) <;> (try (exfalso; omega))) <;> (first | (refine Wl_guard (k := ?_); refine Wl_move (k := ?_)) | refine Wl_gno (k := ?_))))) <;> (((first | (refine Wl_guard (k := ?_); refine Wl_nilCheck (k := ?_)) | refine Wl_gno (k := ?_) | ((refine Wl_split (yes := (fun ht => ?_)) (no := (fun ht => ?_)) <;> (try simp at ht) <;> (try (exfalso; omega))) <;> (first | (refine Wl_guard (k := ?_); refine Wl_nilCheck (k := ?_)) | refine Wl_gno (k := ?_))))) <;> (((first | (refine Wl_guard (k := ?_); refine Wl_fieldAddr (k := ?_)) | refine Wl_gno (k := ?_) | ((refine Wl_split (yes := (fun ht => ?_)) (no := (fun ht => ?_)) <;> (try simp at ht) <;> (try (exfalso; omega))) <;> (first | (refine Wl_guard (k := ?_); refine Wl_fieldAddr (k := ?_)) | refine Wl_gno (k := ?_))))) <;> (((first | (refine Wl_guard (k := ?_); refine Wl_load (k := ?_)) | refine Wl_gno (k := ?_) | ((refine Wl_split (yes := (fun ht => ?_)) (no := (fun ht => ?_)) <;> (try simp at ht) <;> (try (exfalso; omega))) <;> (first | (refine Wl_guard (k := ?_); refine Wl_load (k := ?_)) | refine Wl_gno (k := ?_))))) <;> (((first | (refine Wl_guard (k := ?_); refine Wl_eql (k' := ?_)) | refine Wl_gno (k := ?_) | ((refine Wl_split (yes := (fun ht => ?_)) (no := (fun ht => ?_)) <;> (try simp at ht) <;> (try (exfalso; omega))) <;> (first | (refine Wl_guard (k := ?_); refine Wl_eql (k' := ?_)) | refine Wl_gno (k := ?_))))) <;> ((first | refine Wl_pick_t (k := ?_) | refine Wl_pick_f (k := ?_) | refine Wl_pick (k := ?_)); (refine Wl_nil (hK _ _ ?_); clear hK K)))))))
    | (refine Wc_region (id := 2) ?_; intro K hK; refine Wl_move (k := ?_); refine Wl_nilCheck (k := ?_); refine Wl_fieldAddr (k := ?_); refine Wl_store (ho := rfl) (k := ?_); (refine Wl_nil (hK _ _ ?_); clear hK K))
    | (refine Wc_region (id := 3) ?_; intro K hK; refine Wl_assign (k := ?_); (refine Wl_nil (hK _ _ ?_); clear hK K))
    | (refine Wc_region (id := 4) ?_; intro K hK; refine Wl_move (k := ?_); refine Wl_nilCheck (k := ?_); refine Wl_fieldAddr (k := ?_); refine Wl_load (k := ?_); refine Wl_gtr (k' := ?_); (refine Wl_nil (hK _ _ ?_); clear hK K))
    | (refine Wc_region (id := 5) ?_; intro K hK; refine Wl_move (k := ?_); refine Wl_nilCheck (k := ?_); refine Wl_fieldAddr (k := ?_); refine Wl_load (k := ?_); refine Wl_sub (k' := ?_); refine Wl_nilCheck (k := ?_); refine Wl_fieldAddr (k := ?_); refine Wl_store (ho := rfl) (k := ?_); (refine Wl_nil (hK _ _ ?_); clear hK K))
    | (refine Wc_region (id := 6) ?_; intro K hK; refine Wl_move (k := ?_); refine Wl_nilCheck (k := ?_); refine Wl_fieldAddr (k := ?_); ((refine Wl_call (hs := (Add_spec B p 4 _ _ _ _ _ rfl (SetAt.succ (SetAt.succ (SetAt.succ (SetAt.succ SetAt.zero)))) (fits_i64 (by omega)))) (hp := (Pick.cons Out.head Pick.nil)) (k := ?_); rintro v A' ⟨rfl, rfl⟩; simp only [List.cons_append, List.nil_append])) <;> ((refine Wl_nil (hK _ _ ?_); clear hK K)))
    | (refine Wc_region (id := 7) ?_; intro K hK; refine Wl_assign (k := ?_); (refine Wl_nil (hK _ _ ?_); clear hK K))
    | (refine Wc_cond (ht := (fun ht => ?_)) (hf := (fun ht => ?_)) <;> (try simp at ht) <;> (try (exfalso; omega))))
  · refine ⟨Or.inr rfl, _, _, Ent.refl _, res1 rfl rfl, ?_⟩; exact ⟨rfl, by rw [if_pos (by assumption)]⟩
  · refine ⟨Or.inr rfl, _, _, Ent.refl _, res1 rfl rfl, ?_⟩; exact ⟨rfl, by rw [if_neg (by omega)]⟩
end specs

section specs
variable (B : Base)
theorem new_spec (n : Nat) (h : 1 ≤ n ∧ n ≤ 4096) :
    Fspec Try.prog B 6 #[.int .i64 n] [] (fun v A' => ∃ p, v = .tuple #[.pointer (some ⟨p, 0, none⟩), .int .i64 0] ∧ A' = [DiskP p n (Dk.new n)]) := by
  refine spec_of (args := [_]) Try.func6 rfl rfl rfl ?_
  repeat' (first
    | refine Wc_seq ?_
    | refine thenQ_normal ?_
    | refine Wc_cond_t (h := ?_)
    | refine Wc_cond_f (h := ?_)
    | refine Wc_ret ?_
    | refine thenQ_ret ?_
    | refine Wc_block ?_
    | refine blkQ_normal ?_
    | refine blkQ_ret ?_
    | refine Wc_exit ?_
    | refine thenQ_exit ?_
    | refine blkQ_hit ?_
    | refine blkQ_miss rfl ?_
    | refine Wc_skip ?_
    | refine Wc_label ?_
    | refine loopQ_exit ?_
    | refine loopQ_ret ?_
    | refine loopQ_normal ?_
    | (refine Wc_region (id := 0) ?_; intro K hK; refine Wl_assign (k := ?_); refine Wl_assign (k := ?_); (refine Wl_nil (hK _ _ ?_); clear hK K))
    | (refine Wc_region (id := 1) ?_; intro K hK; refine Wl_move (k := ?_); refine Wl_lss (k' := ?_); refine Wl_move (k := ?_); ((first | (refine Wl_guard (k := ?_); refine Wl_move (k := ?_)) | refine Wl_gno (k := ?_) | ((refine Wl_split (yes := (fun ht => ?_)) (no := (fun ht => ?_)) <;> (try simp at ht) <;> (try (exfalso; omega))) <;> (first | (refine Wl_guard (k := ?_); refine Wl_move (k := ?_)) | refine Wl_gno (k := ?_))))) <;> (((first | (refine Wl_guard (k := ?_); refine Wl_gtr (k' := ?_)) | refine Wl_gno (k := ?_) | ((refine Wl_split (yes := (fun ht => ?_)) (no := (fun ht => ?_)) <;> (try simp at ht) <;> (try (exfalso; omega))) <;> (first | (refine Wl_guard (k := ?_); refine Wl_gtr (k' := ?_)) | refine Wl_gno (k := ?_))))) <;> ((first | refine Wl_pick_t (k := ?_) | refine Wl_pick_f (k := ?_) | refine Wl_pick (k := ?_)); (refine Wl_nil (hK _ _ ?_); clear hK K))))
    | (refine Wc_region (id := 2) ?_; intro K hK; refine Wl_assign (k := ?_); refine Wl_assign (k := ?_); (refine Wl_nil (hK _ _ ?_); clear hK K))
    | (refine Wc_region (id := 3) ?_; intro K hK; refine Wl_move (k := ?_); ((refine Wl_makeSlice (len := n) (cap := n) (hle := (Nat.le_refl _)) (hb := (by omega)) (k := ?_); intro bk)) <;> (refine Wl_build (k := ?_); (refine Wl_boxAgg (k := ?_); intro r); refine Wl_assign (k := ?_); refine Wl_assign (k := ?_); (refine Wl_nil (hK _ _ ?_); clear hK K)))
    | (refine Wc_cond (ht := (fun ht => ?_)) (hf := (fun ht => ?_)) <;> (try simp at ht) <;> (try (exfalso; omega))))
  rw [zr_eq]
  refine ⟨Or.inr rfl, _, [DiskP r n (Dk.new n)], ?_, res2 rfl rfl rfl, _, rfl, rfl⟩
  exact ((own_nil 65 104 _).trans (Ent.perm (List.perm_append_comm (l₁ := [_]) (l₂ := [_, _])))).trans (Ent.exN_shut (f := fun x : Nat × Option Addr × Nat => DiskL r n (Dk.new n) x.1 x.2.1 x.2.2) (bk, none, 0) [])
theorem write_ok (p n i : Nat) (D : Dk) (h : D.ok n) (hd : D.down = false) (hf : D.fuse ≠ 0) (hi : i < n) (a : Option Addr) (c : Nat) (bs : List UInt8) (A0 : List Asn)
    (hl : bs.length = 64) (hsrc : Src Try.prog B A0 1 (.slice a 64 c) 64 (bs.map byteV)) :
    Fspec Try.prog B 54 #[.pointer (some ⟨p, 0, none⟩), .int .i64 i, .slice a 64 c] (DiskP p n D :: A0)
      (fun v A' => v = .int .i64 0 ∧ A' = DiskP p n (D.put i bs) :: A0) := by
  have hfu := h.fuse; have hst := h.steps; have hn := h.n; have hfew := h.few
  refine spec_of (args := [_, _, _]) Try.func54 rfl rfl rfl ?_
  refine Wc_exN (fun x => ?_)
  obtain ⟨bk, pa, pc⟩ := x
  simp only [DiskL, hd]
  simp only [List.cons_append, List.nil_append]
  repeat' (first
    | refine Wc_seq ?_
    | refine thenQ_normal ?_
    | refine Wc_cond_t (h := ?_)
    | refine Wc_cond_f (h := ?_)
    | refine Wc_ret ?_
    | refine thenQ_ret ?_
    | refine Wc_block ?_
    | refine blkQ_normal ?_
    | refine blkQ_ret ?_
    | refine Wc_exit ?_
    | refine thenQ_exit ?_
    | refine blkQ_hit ?_
    | refine blkQ_miss rfl ?_
    | refine Wc_skip ?_
    | refine Wc_label ?_
    | refine loopQ_exit ?_
    | refine loopQ_ret ?_
    | refine loopQ_normal ?_
    | (refine Wc_region (id := 0) ?_; intro K hK; refine Wl_assign (k := ?_); (refine Wl_nil (hK _ _ ?_); clear hK K))
    | (refine Wc_region (id := 1) ?_; intro K hK; refine Wl_move (k := ?_); refine Wl_ptr_eq_nil (k' := ?_); refine Wl_move (k := ?_); ((first | (refine Wl_guard (k := ?_); refine Wl_move (k := ?_)) | refine Wl_gno (k := ?_) | ((refine Wl_split (yes := (fun ht => ?_)) (no := (fun ht => ?_)) <;> (try simp at ht) <;> (try (exfalso; omega))) <;> (first | (refine Wl_guard (k := ?_); refine Wl_move (k := ?_)) | refine Wl_gno (k := ?_))))) <;> (((first | (refine Wl_guard (k := ?_); refine Wl_lss (k' := ?_)) | refine Wl_gno (k := ?_) | ((refine Wl_split (yes := (fun ht => ?_)) (no := (fun ht => ?_)) <;> (try simp at ht) <;> (try (exfalso; omega))) <;> (first | (refine Wl_guard (k := ?_); refine Wl_lss (k' := ?_)) | refine Wl_gno (k := ?_))))) <;> ((first | refine Wl_pick_t (k := ?_) | refine Wl_pick_f (k := ?_) | refine Wl_pick (k := ?_)); refine Wl_move (k := ?_); ((first | (refine Wl_guard (k := ?_); refine Wl_move (k := ?_)) | refine Wl_gno (k := ?_) | ((refine Wl_split (yes := (fun ht => ?_)) (no := (fun ht => ?_)) <;> (try simp at ht) <;> (try (exfalso; omega))) <;> (first | (refine Wl_guard (k := ?_); refine Wl_move (k := ?_)) | refine Wl_gno (k := ?_))))) <;> (((first | (refine Wl_guard (k := ?_); refine Wl_move (k := ?_)) | refine Wl_gno (k := ?_) | ((refine Wl_split (yes := (fun ht => ?_)) (no := (fun ht => ?_)) <;> (try simp at ht) <;> (try (exfalso; omega))) <;> (first | (refine Wl_guard (k := ?_); refine Wl_move (k := ?_)) | refine Wl_gno (k := ?_))))) <;> (((first | (refine Wl_guard (k := ?_); refine Wl_nilCheck (k := ?_)) | refine Wl_gno (k := ?_) | ((refine Wl_split (yes := (fun ht => ?_)) (no := (fun ht => ?_)) <;> (try simp at ht) <;> (try (exfalso; omega))) <;> (first | (refine Wl_guard (k := ?_); refine Wl_nilCheck (k := ?_)) | refine Wl_gno (k := ?_))))) <;> (((first | (refine Wl_guard (k := ?_); refine Wl_fieldAddr (k := ?_)) | refine Wl_gno (k := ?_) | ((refine Wl_split (yes := (fun ht => ?_)) (no := (fun ht => ?_)) <;> (try simp at ht) <;> (try (exfalso; omega))) <;> (first | (refine Wl_guard (k := ?_); refine Wl_fieldAddr (k := ?_)) | refine Wl_gno (k := ?_))))) <;> (((first | (refine Wl_guard (k := ?_); refine Wl_load (k := ?_)) | refine Wl_gno (k := ?_) | ((refine Wl_split (yes := (fun ht => ?_)) (no := (fun ht => ?_)) <;> (try simp at ht) <;> (try (exfalso; omega))) <;> (first | (refine Wl_guard (k := ?_); refine Wl_load (k := ?_)) | refine Wl_gno (k := ?_))))) <;> (((first | (refine Wl_guard (k := ?_); refine Wl_len_sl (k' := ?_)) | refine Wl_gno (k := ?_) | ((refine Wl_split (yes := (fun ht => ?_)) (no := (fun ht => ?_)) <;> (try simp at ht) <;> (try (exfalso; omega))) <;> (first | (refine Wl_guard (k := ?_); refine Wl_len_sl (k' := ?_)) | refine Wl_gno (k := ?_))))) <;> (((first | (refine Wl_guard (k := ?_); refine Wl_geq (k' := ?_)) | refine Wl_gno (k := ?_) | ((refine Wl_split (yes := (fun ht => ?_)) (no := (fun ht => ?_)) <;> (try simp at ht) <;> (try (exfalso; omega))) <;> (first | (refine Wl_guard (k := ?_); refine Wl_geq (k' := ?_)) | refine Wl_gno (k := ?_))))) <;> ((first | refine Wl_pick_t (k := ?_) | refine Wl_pick_f (k := ?_) | refine Wl_pick (k := ?_)); refine Wl_move (k := ?_); ((first | (refine Wl_guard (k := ?_); refine Wl_move (k := ?_)) | refine Wl_gno (k := ?_) | ((refine Wl_split (yes := (fun ht => ?_)) (no := (fun ht => ?_)) <;> (try simp at ht) <;> (try (exfalso; omega))) <;> (first | (refine Wl_guard (k := ?_); refine Wl_move (k := ?_)) | refine Wl_gno (k := ?_))))) <;> (((first | (refine Wl_guard (k := ?_); refine Wl_len_sl (k' := ?_)) | refine Wl_gno (k := ?_) | ((refine Wl_split (yes := (fun ht => ?_)) (no := (fun ht => ?_)) <;> (try simp at ht) <;> (try (exfalso; omega))) <;> (first | (refine Wl_guard (k := ?_); refine Wl_len_sl (k' := ?_)) | refine Wl_gno (k := ?_))))) <;> (((first | (refine Wl_guard (k := ?_); refine Wl_neq (k' := ?_)) | refine Wl_gno (k := ?_) | ((refine Wl_split (yes := (fun ht => ?_)) (no := (fun ht => ?_)) <;> (try simp at ht) <;> (try (exfalso; omega))) <;> (first | (refine Wl_guard (k := ?_); refine Wl_neq (k' := ?_)) | refine Wl_gno (k := ?_))))) <;> ((first | refine Wl_pick_t (k := ?_) | refine Wl_pick_f (k := ?_) | refine Wl_pick (k := ?_)); (refine Wl_nil (hK _ _ ?_); clear hK K))))))))))))))
    | (refine Wc_region (id := 2) ?_; intro K hK; refine Wl_assign (k := ?_); (refine Wl_nil (hK _ _ ?_); clear hK K))
    | (refine Wc_region (id := 3) ?_; intro K hK; refine Wl_move (k := ?_); ((refine Wl_call (hs := (step_yes B p _ _ _ _ hf hfu hst)) (hp := (Pick.cons Out.head Pick.nil)) (k := ?_); rintro v A' ⟨rfl, rfl⟩; simp only [List.cons_append, List.nil_append])) <;> (refine Wl_not (k' := ?_); (refine Wl_nil (hK _ _ ?_); clear hK K)))
    | (refine Wc_region (id := 4) ?_; intro K hK; refine Wl_assign (k := ?_); (refine Wl_nil (hK _ _ ?_); clear hK K))
    | (refine Wc_draw (id := 5) (h := ?_); intro K hK; refine Wl_move (k := ?_); refine Wl_move (k := ?_); refine Wl_nilCheck (k := ?_); refine Wl_fieldAddr (k := ?_); refine Wl_load (k := ?_); refine Wl_move (k := ?_); refine Wl_move (k := ?_); refine Wl_toArrPtr (k' := ?_); ((refine Wl_loadAgg_src (vs := bs.map byteV) (m := 64) (c := c) (hsrc := (by repeat (first | exact hsrc | apply Src.tail))) (hvl := (by simp [hl])) (hc := (List.take_of_length_le (by simp [hl]))) (k := ?_))) <;> ((((refine Wl_build (cells := .int .i64 i :: bs.map byteV) (hb := (by exact bld_cell_row _ _ _ _ 64 rfl (by simp [hl]) rfl)) (k := ?_)))) <;> (((refine Wl_lit1a (hl := (by simp [hl])) (k := ?_); intro r)) <;> (((refine Wl_append1 (hvl := (by simp [hl])) (hvc := (cell_all i bs)) (hbd := (by omega)) (k := ?_); intro pa' pc')) <;> (refine Wl_nilCheck (k := ?_); refine Wl_fieldAddr (k := ?_); refine Wl_store (ho := rfl) (k := ?_); (refine Wl_nil (hK _ _ ?_); clear hK K))))))
    | (refine Wc_region (id := 6) ?_; intro K hK; refine Wl_assign (k := ?_); (refine Wl_nil (hK _ _ ?_); clear hK K))
    | (refine Wc_cond (ht := (fun ht => ?_)) (hf := (fun ht => ?_)) <;> (try simp at ht) <;> (try (exfalso; omega))))
  refine ⟨Or.inr rfl, _, _ :: A0, fold_disk (D := D.put i bs) (bk := bk) (pa := pa') (pc := pc') ?_, res1 rfl rfl, rfl, rfl⟩
  simp only [DiskL, Dk.put, Dk.tick, List.length_append, List.length_singleton, pcells_snoc, hd]
  simp only [List.cons_append, List.nil_append]
  (repeat (first | exact Ent.refl _ | exact Ent.nil | refine Ent.take (by (repeat (first | exact Out.head | apply Out.tail)); (first | done | fail)) ?_ | refine Ent.drop1 ?_))
theorem write_down (p n : Nat) (i : Int) (D : Dk) (h : D.ok n) (hd : D.down = true ∨ D.fuse = 0) (hi : 0 ≤ i ∧ i < n) (a : Option Addr) (c : Nat) (A0 : List Asn) :
    Fspec Try.prog B 54 #[.pointer (some ⟨p, 0, none⟩), .int .i64 i, .slice a 64 c] (DiskP p n D :: A0)
      (fun v A' => v = .int .i64 7 ∧ A' = DiskP p n D.dead :: A0) := by
  refine spec_of (args := [_, _, _]) Try.func54 rfl rfl rfl ?_
  refine Wc_exN (fun x => ?_)
  obtain ⟨bk, pa, pc⟩ := x
  simp only [DiskL]
  simp only [List.cons_append, List.nil_append]
  repeat' (first
    | refine Wc_seq ?_
    | refine thenQ_normal ?_
    | refine Wc_cond_t (h := ?_)
    | refine Wc_cond_f (h := ?_)
    | refine Wc_ret ?_
    | refine thenQ_ret ?_
    | refine Wc_block ?_
    | refine blkQ_normal ?_
    | refine blkQ_ret ?_
    | refine Wc_exit ?_
    | refine thenQ_exit ?_
    | refine blkQ_hit ?_
    | refine blkQ_miss rfl ?_
    | refine Wc_skip ?_
    | refine Wc_label ?_
    | refine loopQ_exit ?_
    | refine loopQ_ret ?_
    | refine loopQ_normal ?_
    | (refine Wc_region (id := 0) ?_; intro K hK; refine Wl_assign (k := ?_); (refine Wl_nil (hK _ _ ?_); clear hK K))
    | (refine Wc_region (id := 1) ?_; intro K hK; refine Wl_move (k := ?_); refine Wl_ptr_eq_nil (k' := ?_); refine Wl_move (k := ?_); ((first | (refine Wl_guard (k := ?_); refine Wl_move (k := ?_)) | refine Wl_gno (k := ?_) | ((refine Wl_split (yes := (fun ht => ?_)) (no := (fun ht => ?_)) <;> (try simp at ht) <;> (try (exfalso; omega))) <;> (first | (refine Wl_guard (k := ?_); refine Wl_move (k := ?_)) | refine Wl_gno (k := ?_))))) <;> (((first | (refine Wl_guard (k := ?_); refine Wl_lss (k' := ?_)) | refine Wl_gno (k := ?_) | ((refine Wl_split (yes := (fun ht => ?_)) (no := (fun ht => ?_)) <;> (try simp at ht) <;> (try (exfalso; omega))) <;> (first | (refine Wl_guard (k := ?_); refine Wl_lss (k' := ?_)) | refine Wl_gno (k := ?_))))) <;> ((first | refine Wl_pick_t (k := ?_) | refine Wl_pick_f (k := ?_) | refine Wl_pick (k := ?_)); refine Wl_move (k := ?_); ((first | (refine Wl_guard (k := ?_); refine Wl_move (k := ?_)) | refine Wl_gno (k := ?_) | ((refine Wl_split (yes := (fun ht => ?_)) (no := (fun ht => ?_)) <;> (try simp at ht) <;> (try (exfalso; omega))) <;> (first | (refine Wl_guard (k := ?_); refine Wl_move (k := ?_)) | refine Wl_gno (k := ?_))))) <;> (((first | (refine Wl_guard (k := ?_); refine Wl_move (k := ?_)) | refine Wl_gno (k := ?_) | ((refine Wl_split (yes := (fun ht => ?_)) (no := (fun ht => ?_)) <;> (try simp at ht) <;> (try (exfalso; omega))) <;> (first | (refine Wl_guard (k := ?_); refine Wl_move (k := ?_)) | refine Wl_gno (k := ?_))))) <;> (((first | (refine Wl_guard (k := ?_); refine Wl_nilCheck (k := ?_)) | refine Wl_gno (k := ?_) | ((refine Wl_split (yes := (fun ht => ?_)) (no := (fun ht => ?_)) <;> (try simp at ht) <;> (try (exfalso; omega))) <;> (first | (refine Wl_guard (k := ?_); refine Wl_nilCheck (k := ?_)) | refine Wl_gno (k := ?_))))) <;> (((first | (refine Wl_guard (k := ?_); refine Wl_fieldAddr (k := ?_)) | refine Wl_gno (k := ?_) | ((refine Wl_split (yes := (fun ht => ?_)) (no := (fun ht => ?_)) <;> (try simp at ht) <;> (try (exfalso; omega))) <;> (first | (refine Wl_guard (k := ?_); refine Wl_fieldAddr (k := ?_)) | refine Wl_gno (k := ?_))))) <;> (((first | (refine Wl_guard (k := ?_); refine Wl_load (k := ?_)) | refine Wl_gno (k := ?_) | ((refine Wl_split (yes := (fun ht => ?_)) (no := (fun ht => ?_)) <;> (try simp at ht) <;> (try (exfalso; omega))) <;> (first | (refine Wl_guard (k := ?_); refine Wl_load (k := ?_)) | refine Wl_gno (k := ?_))))) <;> (((first | (refine Wl_guard (k := ?_); refine Wl_len_sl (k' := ?_)) | refine Wl_gno (k := ?_) | ((refine Wl_split (yes := (fun ht => ?_)) (no := (fun ht => ?_)) <;> (try simp at ht) <;> (try (exfalso; omega))) <;> (first | (refine Wl_guard (k := ?_); refine Wl_len_sl (k' := ?_)) | refine Wl_gno (k := ?_))))) <;> (((first | (refine Wl_guard (k := ?_); refine Wl_geq (k' := ?_)) | refine Wl_gno (k := ?_) | ((refine Wl_split (yes := (fun ht => ?_)) (no := (fun ht => ?_)) <;> (try simp at ht) <;> (try (exfalso; omega))) <;> (first | (refine Wl_guard (k := ?_); refine Wl_geq (k' := ?_)) | refine Wl_gno (k := ?_))))) <;> ((first | refine Wl_pick_t (k := ?_) | refine Wl_pick_f (k := ?_) | refine Wl_pick (k := ?_)); refine Wl_move (k := ?_); ((first | (refine Wl_guard (k := ?_); refine Wl_move (k := ?_)) | refine Wl_gno (k := ?_) | ((refine Wl_split (yes := (fun ht => ?_)) (no := (fun ht => ?_)) <;> (try simp at ht) <;> (try (exfalso; omega))) <;> (first | (refine Wl_guard (k := ?_); refine Wl_move (k := ?_)) | refine Wl_gno (k := ?_))))) <;> (((first | (refine Wl_guard (k := ?_); refine Wl_len_sl (k' := ?_)) | refine Wl_gno (k := ?_) | ((refine Wl_split (yes := (fun ht => ?_)) (no := (fun ht => ?_)) <;> (try simp at ht) <;> (try (exfalso; omega))) <;> (first | (refine Wl_guard (k := ?_); refine Wl_len_sl (k' := ?_)) | refine Wl_gno (k := ?_))))) <;> (((first | (refine Wl_guard (k := ?_); refine Wl_neq (k' := ?_)) | refine Wl_gno (k := ?_) | ((refine Wl_split (yes := (fun ht => ?_)) (no := (fun ht => ?_)) <;> (try simp at ht) <;> (try (exfalso; omega))) <;> (first | (refine Wl_guard (k := ?_); refine Wl_neq (k' := ?_)) | refine Wl_gno (k := ?_))))) <;> ((first | refine Wl_pick_t (k := ?_) | refine Wl_pick_f (k := ?_) | refine Wl_pick (k := ?_)); (refine Wl_nil (hK _ _ ?_); clear hK K))))))))))))))
    | (refine Wc_region (id := 2) ?_; intro K hK; refine Wl_assign (k := ?_); (refine Wl_nil (hK _ _ ?_); clear hK K))
    | (refine Wc_region (id := 3) ?_; intro K hK; refine Wl_move (k := ?_); ((refine Wl_call (hs := (step_no B p _ _ _ _ _ hd)) (hp := (Pick.cons Out.head Pick.nil)) (k := ?_); rintro v A' ⟨rfl, rfl⟩; simp only [List.cons_append, List.nil_append])) <;> (refine Wl_not (k' := ?_); (refine Wl_nil (hK _ _ ?_); clear hK K)))
    | (refine Wc_region (id := 4) ?_; intro K hK; refine Wl_assign (k := ?_); (refine Wl_nil (hK _ _ ?_); clear hK K))
    | (refine Wc_draw (id := 5) (h := ?_); intro K hK; refine Wl_move (k := ?_); refine Wl_move (k := ?_); refine Wl_nilCheck (k := ?_); refine Wl_fieldAddr (k := ?_); refine Wl_load (k := ?_); refine Wl_move (k := ?_); refine Wl_move (k := ?_); refine Wl_toArrPtr (k' := ?_); refine Wl_loadR (k := ?_); refine Wl_build (k := ?_); (refine Wl_lit1a (hl := (by simp)) (k := ?_); intro r))
    | (refine Wc_region (id := 6) ?_; intro K hK; refine Wl_assign (k := ?_); (refine Wl_nil (hK _ _ ?_); clear hK K))
    | (refine Wc_cond (ht := (fun ht => ?_)) (hf := (fun ht => ?_)) <;> (try simp at ht) <;> (try (exfalso; omega))))
  refine ⟨Or.inr rfl, _, _ :: A0, fold_disk (D := D.dead) (bk := bk) (pa := pa) (pc := pc) ?_, res1 rfl rfl, rfl, rfl⟩
  simp only [DiskL, Dk.dead]
  simp only [List.cons_append, List.nil_append]
  (repeat (first | exact Ent.refl _ | exact Ent.nil | refine Ent.take (by (repeat (first | exact Out.head | apply Out.tail)); (first | done | fail)) ?_ | refine Ent.drop1 ?_))
theorem sync_ok (p n : Nat) (D : Dk) (h : D.ok n) (hd : D.down = false) (hf : D.fuse ≠ 0) :
    Fspec Try.prog B 56 #[.pointer (some ⟨p, 0, none⟩)] [DiskP p n D]
      (fun v A' => v = .int .i64 0 ∧ A' = [DiskP p n D.sync]) := by
  have hfu := h.fuse; have hst := h.steps; have hn := h.n; have hfew := h.few
  refine spec_of (args := [_]) Try.func56 rfl rfl rfl ?_
  refine Wc_exN (fun x => ?_)
  obtain ⟨bk, pa, pc⟩ := x
  simp only [DiskL, hd]
  simp only [List.cons_append, List.nil_append]
  repeat' (first
    | refine Wc_seq ?_
    | refine thenQ_normal ?_
    | refine Wc_cond_t (h := ?_)
    | refine Wc_cond_f (h := ?_)
    | refine Wc_ret ?_
    | refine thenQ_ret ?_
    | refine Wc_block ?_
    | refine blkQ_normal ?_
    | refine blkQ_ret ?_
    | refine Wc_exit ?_
    | refine thenQ_exit ?_
    | refine blkQ_hit ?_
    | refine blkQ_miss rfl ?_
    | refine Wc_skip ?_
    | refine Wc_label ?_
    | refine loopQ_exit ?_
    | refine loopQ_ret ?_
    | refine loopQ_normal ?_
    | (refine Wc_region (id := 0) ?_; intro K hK; refine Wl_assign (k := ?_); (refine Wl_nil (hK _ _ ?_); clear hK K))
    | (refine Wc_region (id := 1) ?_; intro K hK; refine Wl_move (k := ?_); refine Wl_ptr_eq_nil (k' := ?_); refine Wl_move (k := ?_); ((first | (refine Wl_guard (k := ?_); refine Wl_move (k := ?_)) | refine Wl_gno (k := ?_) | ((refine Wl_split (yes := (fun ht => ?_)) (no := (fun ht => ?_)) <;> (try simp at ht) <;> (try (exfalso; omega))) <;> (first | (refine Wl_guard (k := ?_); refine Wl_move (k := ?_)) | refine Wl_gno (k := ?_))))) <;> (((first | (refine Wl_guard (k := ?_); (refine Wl_call (hs := (step_yes B p _ _ _ _ hf hfu hst)) (hp := (Pick.cons Out.head Pick.nil)) (k := ?_); rintro v A' ⟨rfl, rfl⟩; simp only [List.cons_append, List.nil_append])) | refine Wl_gno (k := ?_) | ((refine Wl_split (yes := (fun ht => ?_)) (no := (fun ht => ?_)) <;> (try simp at ht) <;> (try (exfalso; omega))) <;> (first | (refine Wl_guard (k := ?_); (refine Wl_call (hs := (step_yes B p _ _ _ _ hf hfu hst)) (hp := (Pick.cons Out.head Pick.nil)) (k := ?_); rintro v A' ⟨rfl, rfl⟩; simp only [List.cons_append, List.nil_append])) | refine Wl_gno (k := ?_))))) <;> (((first | (refine Wl_guard (k := ?_); refine Wl_not (k' := ?_)) | refine Wl_gno (k := ?_) | ((refine Wl_split (yes := (fun ht => ?_)) (no := (fun ht => ?_)) <;> (try simp at ht) <;> (try (exfalso; omega))) <;> (first | (refine Wl_guard (k := ?_); refine Wl_not (k' := ?_)) | refine Wl_gno (k := ?_))))) <;> ((first | refine Wl_pick_t (k := ?_) | refine Wl_pick_f (k := ?_) | refine Wl_pick (k := ?_)); (refine Wl_nil (hK _ _ ?_); clear hK K)))))
    | (refine Wc_region (id := 2) ?_; intro K hK; refine Wl_assign (k := ?_); (refine Wl_nil (hK _ _ ?_); clear hK K))
    | (refine Wc_region (id := 3) ?_; intro K hK; refine Wl_move (k := ?_); refine Wl_nilCheck (k := ?_); refine Wl_fieldAddr (k := ?_); refine Wl_load (k := ?_); refine Wl_len_sl (k' := ?_); refine Wl_move (k := ?_); (refine Wl_nil (hK _ _ ?_); clear hK K))
    | (refine Wc_region (id := 4) ?_; intro K hK; refine Wl_lss (k' := ?_); (refine Wl_nil (hK _ _ ?_); clear hK K))
    | (refine Wc_region (id := 5) ?_; intro K hK; refine Wl_index_sl (k' := ?_); refine Wl_loadR (k := ?_); (refine Wl_alloc (k := ?_); intro r); refine Wl_storeR (ho' := rfl) (k := ?_); (refine Wl_nil (hK _ _ ?_); clear hK K))
    | (refine Wc_draw (id := 6) (h := ?_); intro K hK; refine Wl_move (k := ?_); refine Wl_nilCheck (k := ?_); refine Wl_fieldAddr (k := ?_); refine Wl_load (k := ?_); refine Wl_fieldAddr (k := ?_); refine Wl_load (k := ?_); refine Wl_fieldAddr (k := ?_); refine Wl_loadR (k := ?_); refine Wl_index_sl (k' := ?_); refine Wl_storeR (ho' := rfl) (k := ?_); (refine Wl_nil (hK _ _ ?_); clear hK K))
    | (refine Wc_region (id := 7) ?_; intro K hK; refine Wl_add (k' := ?_); refine Wl_move (k := ?_); (refine Wl_nil (hK _ _ ?_); clear hK K))
    | (refine Wc_region (id := 8) ?_; intro K hK; refine Wl_move (k := ?_); refine Wl_nilCheck (k := ?_); refine Wl_fieldAddr (k := ?_); refine Wl_store (ho := rfl) (k := ?_); (refine Wl_nil (hK _ _ ?_); clear hK K))
    | (refine Wc_region (id := 9) ?_; intro K hK; refine Wl_assign (k := ?_); (refine Wl_nil (hK _ _ ?_); clear hK K))
    | (refine Wc_cond (ht := (fun ht => ?_)) (hf := (fun ht => ?_)) <;> (try simp at ht) <;> (try (exfalso; omega))))
  refine Wc_take (y := own _ _ _ _ _ _) (k := (Wc_own ?_ ?_))
  · intro e1 e2 e3 e4
    have e5 : D.pend = [] := List.length_eq_zero_iff.1 e2
    refine Wc_loop0 ?_
    repeat' (first
      | refine Wc_seq ?_
      | refine thenQ_normal ?_
      | refine Wc_cond_t (h := ?_)
      | refine Wc_cond_f (h := ?_)
      | refine Wc_ret ?_
      | refine thenQ_ret ?_
      | refine Wc_block ?_
      | refine blkQ_normal ?_
      | refine blkQ_ret ?_
      | refine Wc_exit ?_
      | refine thenQ_exit ?_
      | refine blkQ_hit ?_
      | refine blkQ_miss rfl ?_
      | refine Wc_skip ?_
      | refine Wc_label ?_
      | refine loopQ_exit ?_
      | refine loopQ_ret ?_
      | refine loopQ_normal ?_
      | (refine Wc_region (id := 0) ?_; intro K hK; refine Wl_assign (k := ?_); (refine Wl_nil (hK _ _ ?_); clear hK K))
      | (refine Wc_region (id := 1) ?_; intro K hK; refine Wl_move (k := ?_); refine Wl_ptr_eq_nil (k' := ?_); refine Wl_move (k := ?_); ((first | (refine Wl_guard (k := ?_); refine Wl_move (k := ?_)) | refine Wl_gno (k := ?_) | ((refine Wl_split (yes := (fun ht => ?_)) (no := (fun ht => ?_)) <;> (try simp at ht) <;> (try (exfalso; omega))) <;> (first | (refine Wl_guard (k := ?_); refine Wl_move (k := ?_)) | refine Wl_gno (k := ?_))))) <;> (((first | (refine Wl_guard (k := ?_); (skip)) | refine Wl_gno (k := ?_) | ((refine Wl_split (yes := (fun ht => ?_)) (no := (fun ht => ?_)) <;> (try simp at ht) <;> (try (exfalso; omega))) <;> (first | (refine Wl_guard (k := ?_); (skip)) | refine Wl_gno (k := ?_))))) <;> (((first | (refine Wl_guard (k := ?_); refine Wl_not (k' := ?_)) | refine Wl_gno (k := ?_) | ((refine Wl_split (yes := (fun ht => ?_)) (no := (fun ht => ?_)) <;> (try simp at ht) <;> (try (exfalso; omega))) <;> (first | (refine Wl_guard (k := ?_); refine Wl_not (k' := ?_)) | refine Wl_gno (k := ?_))))) <;> ((first | refine Wl_pick_t (k := ?_) | refine Wl_pick_f (k := ?_) | refine Wl_pick (k := ?_)); (refine Wl_nil (hK _ _ ?_); clear hK K)))))
      | (refine Wc_region (id := 2) ?_; intro K hK; refine Wl_assign (k := ?_); (refine Wl_nil (hK _ _ ?_); clear hK K))
      | (refine Wc_region (id := 3) ?_; intro K hK; refine Wl_move (k := ?_); refine Wl_nilCheck (k := ?_); refine Wl_fieldAddr (k := ?_); refine Wl_load (k := ?_); refine Wl_len_sl (k' := ?_); refine Wl_move (k := ?_); (refine Wl_nil (hK _ _ ?_); clear hK K))
      | (refine Wc_region (id := 4) ?_; intro K hK; refine Wl_lss (k' := ?_); (refine Wl_nil (hK _ _ ?_); clear hK K))
      | (refine Wc_region (id := 5) ?_; intro K hK; refine Wl_index_sl (k' := ?_); refine Wl_loadR (k := ?_); (refine Wl_alloc (k := ?_); intro r); refine Wl_storeR (ho' := rfl) (k := ?_); (refine Wl_nil (hK _ _ ?_); clear hK K))
      | (refine Wc_draw (id := 6) (h := ?_); intro K hK; refine Wl_move (k := ?_); refine Wl_nilCheck (k := ?_); refine Wl_fieldAddr (k := ?_); refine Wl_load (k := ?_); refine Wl_fieldAddr (k := ?_); refine Wl_load (k := ?_); refine Wl_fieldAddr (k := ?_); refine Wl_loadR (k := ?_); refine Wl_index_sl (k' := ?_); refine Wl_storeR (ho' := rfl) (k := ?_); (refine Wl_nil (hK _ _ ?_); clear hK K))
      | (refine Wc_region (id := 7) ?_; intro K hK; refine Wl_add (k' := ?_); refine Wl_move (k := ?_); (refine Wl_nil (hK _ _ ?_); clear hK K))
      | (refine Wc_region (id := 8) ?_; intro K hK; refine Wl_move (k := ?_); refine Wl_nilCheck (k := ?_); refine Wl_fieldAddr (k := ?_); refine Wl_store (ho := rfl) (k := ?_); (refine Wl_nil (hK _ _ ?_); clear hK K))
      | (refine Wc_region (id := 9) ?_; intro K hK; refine Wl_assign (k := ?_); (refine Wl_nil (hK _ _ ?_); clear hK K))
      | (refine Wc_cond (ht := (fun ht => ?_)) (hf := (fun ht => ?_)) <;> (try simp at ht) <;> (try (exfalso; omega))))
    refine ⟨Or.inr rfl, _, [_], fold_disk (A0 := []) (D := D.sync) (bk := bk) (pa := none) (pc := 0) ?_, res1 rfl rfl, rfl, rfl⟩
    simp only [DiskL, Dk.sync, Dk.tick, hd, e5, flush, List.foldl_nil, List.length_nil]
    simp only [List.cons_append, List.nil_append]
    exact (own_nil 65 104 _).trans (Ent.perm (List.perm_append_comm (l₁ := [_]) (l₂ := [_, _])))
  · intro rp spare e1 e2 e3
    subst e1
    refine Wc_loop (α := Nat) (fun k => [(0, .pointer (some ⟨p, 0, none⟩)), (15, .slice (some ⟨rp, 0, none⟩) D.pend.length pc), (16, .int .i64 D.pend.length), (17, .int .i64 k)])
      (fun k => [cb rp (pcells D.pend ++ spare) 104, cb p [.slice (some ⟨bk, 0, none⟩) n n, .slice (some ⟨rp, 0, none⟩) D.pend.length pc,
        .int .i64 (if 0 < D.fuse then D.fuse - 1 else D.fuse), .bool false, .int .i64 (D.steps + 1)] 77, cb bk ((flush D.kept (D.pend.take k)).map byteV) 102])
      (fun k => k ≤ D.pend.length) (fun k => D.pend.length - k) 0 (by omega) ⟨rfl, rfl, rfl, rfl, trivial⟩ (Ent.refl _) ?_
    intro k G hk
    simp only [ov]
    by_cases hk2 : k < D.pend.length
    · obtain ⟨q, hq⟩ : ∃ q, D.pend[k]? = some q := ⟨_, List.getElem?_eq_getElem hk2⟩
      have hqm := h.pend q (List.mem_of_getElem? hq)
      have hq1 := hqm.1; have hq2 := hqm.2
      have hpl := pcells_length D.pend (fun x hx => (h.pend x hx).2)
      have hkl := flush_length n (D.pend.take k) D.kept h.len (fun x hx => h.pend x (List.mem_of_mem_take hx))
      repeat' (first
        | refine Wc_seq ?_
        | refine thenQ_normal ?_
        | refine Wc_cond_t (h := ?_)
        | refine Wc_cond_f (h := ?_)
        | refine Wc_ret ?_
        | refine thenQ_ret ?_
        | refine Wc_block ?_
        | refine blkQ_normal ?_
        | refine blkQ_ret ?_
        | refine Wc_exit ?_
        | refine thenQ_exit ?_
        | refine blkQ_hit ?_
        | refine blkQ_miss rfl ?_
        | refine Wc_skip ?_
        | refine Wc_label ?_
        | refine loopQ_exit ?_
        | refine loopQ_ret ?_
        | refine loopQ_normal ?_
        | (refine Wc_region (id := 0) ?_; intro K hK; refine Wl_assign (k := ?_); (refine Wl_nil (hK _ _ ?_); clear hK K))
        | (refine Wc_region (id := 1) ?_; intro K hK; refine Wl_move (k := ?_); refine Wl_ptr_eq_nil (k' := ?_); refine Wl_move (k := ?_); ((first | (refine Wl_guard (k := ?_); refine Wl_move (k := ?_)) | refine Wl_gno (k := ?_) | ((refine Wl_split (yes := (fun ht => ?_)) (no := (fun ht => ?_)) <;> (try simp at ht) <;> (try (exfalso; omega))) <;> (first | (refine Wl_guard (k := ?_); refine Wl_move (k := ?_)) | refine Wl_gno (k := ?_))))) <;> ((refine Wl_gno (k := ?_)) <;> (((first | (refine Wl_guard (k := ?_); refine Wl_not (k' := ?_)) | refine Wl_gno (k := ?_) | ((refine Wl_split (yes := (fun ht => ?_)) (no := (fun ht => ?_)) <;> (try simp at ht) <;> (try (exfalso; omega))) <;> (first | (refine Wl_guard (k := ?_); refine Wl_not (k' := ?_)) | refine Wl_gno (k := ?_))))) <;> ((first | refine Wl_pick_t (k := ?_) | refine Wl_pick_f (k := ?_) | refine Wl_pick (k := ?_)); (refine Wl_nil (hK _ _ ?_); clear hK K)))))
        | (refine Wc_region (id := 2) ?_; intro K hK; refine Wl_assign (k := ?_); (refine Wl_nil (hK _ _ ?_); clear hK K))
        | (refine Wc_region (id := 3) ?_; intro K hK; refine Wl_move (k := ?_); refine Wl_nilCheck (k := ?_); refine Wl_fieldAddr (k := ?_); refine Wl_load (k := ?_); refine Wl_len_sl (k' := ?_); refine Wl_move (k := ?_); (refine Wl_nil (hK _ _ ?_); clear hK K))
        | (refine Wc_region (id := 4) ?_; intro K hK; refine Wl_lss (k' := ?_); (refine Wl_nil (hK _ _ ?_); clear hK K))
        | (refine Wc_region (id := 5) ?_; intro K hK; refine Wl_index_sl (k' := ?_); ((refine Wl_loadAgg (cs := .int .i64 q.1 :: q.2.map byteV) (hv := (by simp [hpl]; omega)) (hc := (by simpa using pcells_get D.pend k q spare (fun x hx => (h.pend x hx).2) hq)) (k := ?_))) <;> ((refine Wl_alloc (k := ?_); intro r); ((refine Wl_storeRow (hv := (cell_all _ _)) (hl := (by simp [hq2])) (ho := (by simp)) (hs := (setL_all _ _ (by simp [hq2]))) (ho' := rfl) (k := ?_))) <;> ((refine Wl_nil (hK _ _ ?_); clear hK K))))
        | (refine Wc_draw (id := 6) (h := ?_); intro K hK; refine Wl_move (k := ?_); refine Wl_nilCheck (k := ?_); refine Wl_fieldAddr (k := ?_); refine Wl_load (k := ?_); refine Wl_fieldAddr (k := ?_); refine Wl_load (k := ?_); refine Wl_fieldAddr (k := ?_); ((refine Wl_loadAgg (cs := q.2.map byteV) (hv := (by simp [hq2])) (hc := (take64 q.2 hq2)) (k := ?_))) <;> (refine Wl_index_sl (k' := ?_); ((refine Wl_storeRow (l' := (putK (flush D.kept (D.pend.take k)) q).map byteV) (hv := (byteV_all _)) (hl := (by simp [hq2])) (ho := (by simp [hkl]; omega)) (hs := (by simpa using setL_putK _ q n hkl hq1 hq2)) (ho' := rfl) (k := ?_))) <;> ((refine Wl_nil (hK _ _ ?_); clear hK K))))
        | (refine Wc_region (id := 7) ?_; intro K hK; refine Wl_add (k' := ?_); refine Wl_move (k := ?_); (refine Wl_nil (hK _ _ ?_); clear hK K))
        | (refine Wc_region (id := 8) ?_; intro K hK; refine Wl_move (k := ?_); refine Wl_nilCheck (k := ?_); refine Wl_fieldAddr (k := ?_); refine Wl_store (ho := rfl) (k := ?_); (refine Wl_nil (hK _ _ ?_); clear hK K))
        | (refine Wc_region (id := 9) ?_; intro K hK; refine Wl_assign (k := ?_); (refine Wl_nil (hK _ _ ?_); clear hK K))
        | (refine Wc_cond (ht := (fun ht => ?_)) (hf := (fun ht => ?_)) <;> (try simp at ht) <;> (try (exfalso; omega))))
      refine ⟨k + 1, by omega, by omega, ⟨rfl, rfl, rfl, int_succ k, trivial⟩, ?_⟩
      rw [take_snoc' hq, flush_snoc]
      (repeat (first | exact Ent.refl _ | exact Ent.nil | refine Ent.take (by (repeat (first | exact Out.head | apply Out.tail)); (first | done | fail)) ?_ | refine Ent.drop1 ?_))
    · have hk3 : k = D.pend.length := by omega
      subst hk3
      repeat' (first
        | refine Wc_seq ?_
        | refine thenQ_normal ?_
        | refine Wc_cond_t (h := ?_)
        | refine Wc_cond_f (h := ?_)
        | refine Wc_ret ?_
        | refine thenQ_ret ?_
        | refine Wc_block ?_
        | refine blkQ_normal ?_
        | refine blkQ_ret ?_
        | refine Wc_exit ?_
        | refine thenQ_exit ?_
        | refine blkQ_hit ?_
        | refine blkQ_miss rfl ?_
        | refine Wc_skip ?_
        | refine Wc_label ?_
        | refine loopQ_exit ?_
        | refine loopQ_ret ?_
        | refine loopQ_normal ?_
        | (refine Wc_region (id := 0) ?_; intro K hK; refine Wl_assign (k := ?_); (refine Wl_nil (hK _ _ ?_); clear hK K))
        | (refine Wc_region (id := 1) ?_; intro K hK; refine Wl_move (k := ?_); refine Wl_ptr_eq_nil (k' := ?_); refine Wl_move (k := ?_); ((first | (refine Wl_guard (k := ?_); refine Wl_move (k := ?_)) | refine Wl_gno (k := ?_) | ((refine Wl_split (yes := (fun ht => ?_)) (no := (fun ht => ?_)) <;> (try simp at ht) <;> (try (exfalso; omega))) <;> (first | (refine Wl_guard (k := ?_); refine Wl_move (k := ?_)) | refine Wl_gno (k := ?_))))) <;> ((refine Wl_gno (k := ?_)) <;> (((first | (refine Wl_guard (k := ?_); refine Wl_not (k' := ?_)) | refine Wl_gno (k := ?_) | ((refine Wl_split (yes := (fun ht => ?_)) (no := (fun ht => ?_)) <;> (try simp at ht) <;> (try (exfalso; omega))) <;> (first | (refine Wl_guard (k := ?_); refine Wl_not (k' := ?_)) | refine Wl_gno (k := ?_))))) <;> ((first | refine Wl_pick_t (k := ?_) | refine Wl_pick_f (k := ?_) | refine Wl_pick (k := ?_)); (refine Wl_nil (hK _ _ ?_); clear hK K)))))
        | (refine Wc_region (id := 2) ?_; intro K hK; refine Wl_assign (k := ?_); (refine Wl_nil (hK _ _ ?_); clear hK K))
        | (refine Wc_region (id := 3) ?_; intro K hK; refine Wl_move (k := ?_); refine Wl_nilCheck (k := ?_); refine Wl_fieldAddr (k := ?_); refine Wl_load (k := ?_); refine Wl_len_sl (k' := ?_); refine Wl_move (k := ?_); (refine Wl_nil (hK _ _ ?_); clear hK K))
        | (refine Wc_region (id := 4) ?_; intro K hK; refine Wl_lss (k' := ?_); (refine Wl_nil (hK _ _ ?_); clear hK K))
        | (refine Wc_region (id := 5) ?_; intro K hK; ((skip)) <;> (refine Wl_loadR (k := ?_); (refine Wl_alloc (k := ?_); intro r); refine Wl_storeR (ho' := rfl) (k := ?_); (refine Wl_nil (hK _ _ ?_); clear hK K)))
        | (refine Wc_draw (id := 6) (h := ?_); intro K hK; refine Wl_move (k := ?_); refine Wl_nilCheck (k := ?_); refine Wl_fieldAddr (k := ?_); refine Wl_load (k := ?_); refine Wl_fieldAddr (k := ?_); refine Wl_load (k := ?_); refine Wl_fieldAddr (k := ?_); refine Wl_loadR (k := ?_); refine Wl_index_sl (k' := ?_); refine Wl_storeR (ho' := rfl) (k := ?_); (refine Wl_nil (hK _ _ ?_); clear hK K))
        | (refine Wc_region (id := 7) ?_; intro K hK; refine Wl_add (k' := ?_); refine Wl_move (k := ?_); (refine Wl_nil (hK _ _ ?_); clear hK K))
        | (refine Wc_region (id := 8) ?_; intro K hK; refine Wl_move (k := ?_); refine Wl_nilCheck (k := ?_); refine Wl_fieldAddr (k := ?_); refine Wl_store (ho := rfl) (k := ?_); (refine Wl_nil (hK _ _ ?_); clear hK K))
        | (refine Wc_region (id := 9) ?_; intro K hK; refine Wl_assign (k := ?_); (refine Wl_nil (hK _ _ ?_); clear hK K))
        | (refine Wc_cond (ht := (fun ht => ?_)) (hf := (fun ht => ?_)) <;> (try simp at ht) <;> (try (exfalso; omega))))
      refine ⟨Or.inr rfl, _, [_], fold_disk (A0 := []) (D := D.sync) (bk := bk) (pa := none) (pc := 0) ?_, res1 rfl rfl, rfl, rfl⟩
      simp only [DiskL, Dk.sync, Dk.tick, hd, List.length_nil, List.take_length]
      simp only [List.cons_append, List.nil_append]
      refine Ent.trans ?_ ((own_nil 65 104 _).trans (Ent.perm (List.perm_append_comm (l₁ := [_]) (l₂ := [_, _]))))
      (repeat (first | exact Ent.refl _ | exact Ent.nil | refine Ent.take (by (repeat (first | exact Out.head | apply Out.tail)); (first | done | fail)) ?_ | refine Ent.drop1 ?_))
theorem sync_down (p n : Nat) (D : Dk) (h : D.ok n) (hd : D.down = true ∨ D.fuse = 0) :
    Fspec Try.prog B 56 #[.pointer (some ⟨p, 0, none⟩)] [DiskP p n D]
      (fun v A' => v = .int .i64 7 ∧ A' = [DiskP p n D.dead]) := by
  refine spec_of (args := [_]) Try.func56 rfl rfl rfl ?_
  refine Wc_exN (fun x => ?_)
  obtain ⟨bk, pa, pc⟩ := x
  simp only [DiskL]
  simp only [List.cons_append, List.nil_append]
  repeat' (first
    | refine Wc_seq ?_
    | refine thenQ_normal ?_
    | refine Wc_cond_t (h := ?_)
    | refine Wc_cond_f (h := ?_)
    | refine Wc_ret ?_
    | refine thenQ_ret ?_
    | refine Wc_block ?_
    | refine blkQ_normal ?_
    | refine blkQ_ret ?_
    | refine Wc_exit ?_
    | refine thenQ_exit ?_
    | refine blkQ_hit ?_
    | refine blkQ_miss rfl ?_
    | refine Wc_skip ?_
    | refine Wc_label ?_
    | refine loopQ_exit ?_
    | refine loopQ_ret ?_
    | refine loopQ_normal ?_
    | (refine Wc_region (id := 0) ?_; intro K hK; refine Wl_assign (k := ?_); (refine Wl_nil (hK _ _ ?_); clear hK K))
    | (refine Wc_region (id := 1) ?_; intro K hK; refine Wl_move (k := ?_); refine Wl_ptr_eq_nil (k' := ?_); refine Wl_move (k := ?_); ((first | (refine Wl_guard (k := ?_); refine Wl_move (k := ?_)) | refine Wl_gno (k := ?_) | ((refine Wl_split (yes := (fun ht => ?_)) (no := (fun ht => ?_)) <;> (try simp at ht) <;> (try (exfalso; omega))) <;> (first | (refine Wl_guard (k := ?_); refine Wl_move (k := ?_)) | refine Wl_gno (k := ?_))))) <;> (((first | (refine Wl_guard (k := ?_); (refine Wl_call (hs := (step_no B p _ _ _ _ _ hd)) (hp := (Pick.cons Out.head Pick.nil)) (k := ?_); rintro v A' ⟨rfl, rfl⟩; simp only [List.cons_append, List.nil_append])) | refine Wl_gno (k := ?_) | ((refine Wl_split (yes := (fun ht => ?_)) (no := (fun ht => ?_)) <;> (try simp at ht) <;> (try (exfalso; omega))) <;> (first | (refine Wl_guard (k := ?_); (refine Wl_call (hs := (step_no B p _ _ _ _ _ hd)) (hp := (Pick.cons Out.head Pick.nil)) (k := ?_); rintro v A' ⟨rfl, rfl⟩; simp only [List.cons_append, List.nil_append])) | refine Wl_gno (k := ?_))))) <;> (((first | (refine Wl_guard (k := ?_); refine Wl_not (k' := ?_)) | refine Wl_gno (k := ?_) | ((refine Wl_split (yes := (fun ht => ?_)) (no := (fun ht => ?_)) <;> (try simp at ht) <;> (try (exfalso; omega))) <;> (first | (refine Wl_guard (k := ?_); refine Wl_not (k' := ?_)) | refine Wl_gno (k := ?_))))) <;> ((first | refine Wl_pick_t (k := ?_) | refine Wl_pick_f (k := ?_) | refine Wl_pick (k := ?_)); (refine Wl_nil (hK _ _ ?_); clear hK K)))))
    | (refine Wc_region (id := 2) ?_; intro K hK; refine Wl_assign (k := ?_); (refine Wl_nil (hK _ _ ?_); clear hK K))
    | (refine Wc_region (id := 3) ?_; intro K hK; refine Wl_move (k := ?_); refine Wl_nilCheck (k := ?_); refine Wl_fieldAddr (k := ?_); refine Wl_load (k := ?_); refine Wl_len_sl (k' := ?_); refine Wl_move (k := ?_); (refine Wl_nil (hK _ _ ?_); clear hK K))
    | (refine Wc_region (id := 4) ?_; intro K hK; refine Wl_lss (k' := ?_); (refine Wl_nil (hK _ _ ?_); clear hK K))
    | (refine Wc_region (id := 5) ?_; intro K hK; refine Wl_index_sl (k' := ?_); refine Wl_loadR (k := ?_); (refine Wl_alloc (k := ?_); intro r); refine Wl_storeR (ho' := rfl) (k := ?_); (refine Wl_nil (hK _ _ ?_); clear hK K))
    | (refine Wc_draw (id := 6) (h := ?_); intro K hK; refine Wl_move (k := ?_); refine Wl_nilCheck (k := ?_); refine Wl_fieldAddr (k := ?_); refine Wl_load (k := ?_); refine Wl_fieldAddr (k := ?_); refine Wl_load (k := ?_); refine Wl_fieldAddr (k := ?_); refine Wl_loadR (k := ?_); refine Wl_index_sl (k' := ?_); refine Wl_storeR (ho' := rfl) (k := ?_); (refine Wl_nil (hK _ _ ?_); clear hK K))
    | (refine Wc_region (id := 7) ?_; intro K hK; refine Wl_add (k' := ?_); refine Wl_move (k := ?_); (refine Wl_nil (hK _ _ ?_); clear hK K))
    | (refine Wc_region (id := 8) ?_; intro K hK; refine Wl_move (k := ?_); refine Wl_nilCheck (k := ?_); refine Wl_fieldAddr (k := ?_); refine Wl_store (ho := rfl) (k := ?_); (refine Wl_nil (hK _ _ ?_); clear hK K))
    | (refine Wc_region (id := 9) ?_; intro K hK; refine Wl_assign (k := ?_); (refine Wl_nil (hK _ _ ?_); clear hK K))
    | (refine Wc_cond (ht := (fun ht => ?_)) (hf := (fun ht => ?_)) <;> (try simp at ht) <;> (try (exfalso; omega))))
  refine ⟨Or.inr rfl, _, [_], fold_disk (A0 := []) (D := D.dead) (bk := bk) (pa := pa) (pc := pc) ?_, res1 rfl rfl, rfl, rfl⟩
  simp only [DiskL, Dk.dead]
  simp only [List.cons_append, List.nil_append]
  (repeat (first | exact Ent.refl _ | exact Ent.nil | refine Ent.take (by (repeat (first | exact Out.head | apply Out.tail)); (first | done | fail)) ?_ | refine Ent.drop1 ?_))
theorem read_ok (p n i : Nat) (D : Dk) (h : D.ok n) (hd : D.down = false) (hi : i < n) :
    Fspec Try.prog B 46 #[.pointer (some ⟨p, 0, none⟩), .int .i64 i] [DiskP p n D]
      (fun v A' => ∃ a c, v = .tuple #[.slice a 64 c, .int .i64 0] ∧ A' = [own a 64 c 1 ((D.seen i).map byteV) 5, DiskP p n D]) := by
  have hfew := h.few; have hn := h.n
  refine spec_of (args := [_, _]) Try.func46 rfl rfl rfl ?_
  refine Wc_exN (fun x => ?_)
  obtain ⟨bk, pa, pc⟩ := x
  simp only [DiskL, hd]
  simp only [List.cons_append, List.nil_append]
  have hsec : (((D.kept.map byteV).drop (0 + (i : Int).toNat * 64)).take 64) = ((D.kept.drop (64 * i)).take 64).map byteV := by simp [Nat.mul_comm]
  have hsl : ((D.kept.drop (64 * i)).take 64).length = 64 := by have := h.len; simp; omega
  repeat' (first
    | refine Wc_seq ?_
    | refine thenQ_normal ?_
    | refine Wc_cond_t (h := ?_)
    | refine Wc_cond_f (h := ?_)
    | refine Wc_ret ?_
    | refine thenQ_ret ?_
    | refine Wc_block ?_
    | refine blkQ_normal ?_
    | refine blkQ_ret ?_
    | refine Wc_exit ?_
    | refine thenQ_exit ?_
    | refine blkQ_hit ?_
    | refine blkQ_miss rfl ?_
    | refine Wc_skip ?_
    | refine Wc_label ?_
    | refine loopQ_exit ?_
    | refine loopQ_ret ?_
    | refine loopQ_normal ?_
    | (refine Wc_region (id := 0) ?_; intro K hK; refine Wl_assign (k := ?_); refine Wl_assign (k := ?_); (refine Wl_nil (hK _ _ ?_); clear hK K))
    | (refine Wc_region (id := 1) ?_; intro K hK; refine Wl_move (k := ?_); refine Wl_ptr_eq_nil (k' := ?_); refine Wl_move (k := ?_); ((first | (refine Wl_guard (k := ?_); refine Wl_move (k := ?_)) | refine Wl_gno (k := ?_) | ((refine Wl_split (yes := (fun ht => ?_)) (no := (fun ht => ?_)) <;> (try simp at ht) <;> (try (exfalso; omega))) <;> (first | (refine Wl_guard (k := ?_); refine Wl_move (k := ?_)) | refine Wl_gno (k := ?_))))) <;> (((first | (refine Wl_guard (k := ?_); refine Wl_lss (k' := ?_)) | refine Wl_gno (k := ?_) | ((refine Wl_split (yes := (fun ht => ?_)) (no := (fun ht => ?_)) <;> (try simp at ht) <;> (try (exfalso; omega))) <;> (first | (refine Wl_guard (k := ?_); refine Wl_lss (k' := ?_)) | refine Wl_gno (k := ?_))))) <;> ((first | refine Wl_pick_t (k := ?_) | refine Wl_pick_f (k := ?_) | refine Wl_pick (k := ?_)); refine Wl_move (k := ?_); ((first | (refine Wl_guard (k := ?_); refine Wl_move (k := ?_)) | refine Wl_gno (k := ?_) | ((refine Wl_split (yes := (fun ht => ?_)) (no := (fun ht => ?_)) <;> (try simp at ht) <;> (try (exfalso; omega))) <;> (first | (refine Wl_guard (k := ?_); refine Wl_move (k := ?_)) | refine Wl_gno (k := ?_))))) <;> (((first | (refine Wl_guard (k := ?_); refine Wl_move (k := ?_)) | refine Wl_gno (k := ?_) | ((refine Wl_split (yes := (fun ht => ?_)) (no := (fun ht => ?_)) <;> (try simp at ht) <;> (try (exfalso; omega))) <;> (first | (refine Wl_guard (k := ?_); refine Wl_move (k := ?_)) | refine Wl_gno (k := ?_))))) <;> (((first | (refine Wl_guard (k := ?_); refine Wl_nilCheck (k := ?_)) | refine Wl_gno (k := ?_) | ((refine Wl_split (yes := (fun ht => ?_)) (no := (fun ht => ?_)) <;> (try simp at ht) <;> (try (exfalso; omega))) <;> (first | (refine Wl_guard (k := ?_); refine Wl_nilCheck (k := ?_)) | refine Wl_gno (k := ?_))))) <;> (((first | (refine Wl_guard (k := ?_); refine Wl_fieldAddr (k := ?_)) | refine Wl_gno (k := ?_) | ((refine Wl_split (yes := (fun ht => ?_)) (no := (fun ht => ?_)) <;> (try simp at ht) <;> (try (exfalso; omega))) <;> (first | (refine Wl_guard (k := ?_); refine Wl_fieldAddr (k := ?_)) | refine Wl_gno (k := ?_))))) <;> (((first | (refine Wl_guard (k := ?_); refine Wl_load (k := ?_)) | refine Wl_gno (k := ?_) | ((refine Wl_split (yes := (fun ht => ?_)) (no := (fun ht => ?_)) <;> (try simp at ht) <;> (try (exfalso; omega))) <;> (first | (refine Wl_guard (k := ?_); refine Wl_load (k := ?_)) | refine Wl_gno (k := ?_))))) <;> (((first | (refine Wl_guard (k := ?_); refine Wl_len_sl (k' := ?_)) | refine Wl_gno (k := ?_) | ((refine Wl_split (yes := (fun ht => ?_)) (no := (fun ht => ?_)) <;> (try simp at ht) <;> (try (exfalso; omega))) <;> (first | (refine Wl_guard (k := ?_); refine Wl_len_sl (k' := ?_)) | refine Wl_gno (k := ?_))))) <;> (((first | (refine Wl_guard (k := ?_); refine Wl_geq (k' := ?_)) | refine Wl_gno (k := ?_) | ((refine Wl_split (yes := (fun ht => ?_)) (no := (fun ht => ?_)) <;> (try simp at ht) <;> (try (exfalso; omega))) <;> (first | (refine Wl_guard (k := ?_); refine Wl_geq (k' := ?_)) | refine Wl_gno (k := ?_))))) <;> ((first | refine Wl_pick_t (k := ?_) | refine Wl_pick_f (k := ?_) | refine Wl_pick (k := ?_)); (refine Wl_nil (hK _ _ ?_); clear hK K)))))))))))
    | (refine Wc_region (id := 2) ?_; intro K hK; refine Wl_assign (k := ?_); refine Wl_assign (k := ?_); (refine Wl_nil (hK _ _ ?_); clear hK K))
    | (refine Wc_region (id := 3) ?_; intro K hK; refine Wl_move (k := ?_); refine Wl_nilCheck (k := ?_); refine Wl_fieldAddr (k := ?_); refine Wl_load (k := ?_); (refine Wl_nil (hK _ _ ?_); clear hK K))
    | (refine Wc_region (id := 4) ?_; intro K hK; refine Wl_assign (k := ?_); refine Wl_assign (k := ?_); (refine Wl_nil (hK _ _ ?_); clear hK K))
    | (refine Wc_region (id := 5) ?_; intro K hK; refine Wl_move (k := ?_); refine Wl_nilCheck (k := ?_); refine Wl_fieldAddr (k := ?_); refine Wl_load (k := ?_); refine Wl_move (k := ?_); refine Wl_index_sl (k' := ?_); ((refine Wl_loadAgg (hv := (by simp [h.len]; omega)) (hc := hsec) (k := ?_))) <;> ((refine Wl_alloc (k := ?_); intro r); ((refine Wl_storeRow (hv := (byteV_all _)) (hl := (by simp [h.len]; omega)) (ho := (by simp [zr64_intu80])) (hs := (setL_all _ _ (by simp [zr64_intu80, h.len]; omega))) (ho' := rfl) (k := ?_))) <;> ((refine Wl_nil (hK _ _ ?_); clear hK K))))
    | (refine Wc_region (id := 6) ?_; intro K hK; refine Wl_move (k := ?_); refine Wl_nilCheck (k := ?_); refine Wl_fieldAddr (k := ?_); refine Wl_load (k := ?_); refine Wl_len_sl (k' := ?_); refine Wl_move (k := ?_); (refine Wl_nil (hK _ _ ?_); clear hK K))
    | (refine Wc_region (id := 7) ?_; intro K hK; refine Wl_lss (k' := ?_); (refine Wl_nil (hK _ _ ?_); clear hK K))
    | (refine Wc_region (id := 8) ?_; intro K hK; refine Wl_index_sl (k' := ?_); refine Wl_loadR (k := ?_); (refine Wl_alloc (k := ?_); intro r); refine Wl_storeR (ho' := rfl) (k := ?_); (refine Wl_nil (hK _ _ ?_); clear hK K))
    | (refine Wc_region (id := 9) ?_; intro K hK; refine Wl_fieldAddr (k := ?_); refine Wl_load (k := ?_); refine Wl_move (k := ?_); refine Wl_eql (k' := ?_); (refine Wl_nil (hK _ _ ?_); clear hK K))
    | (refine Wc_region (id := 10) ?_; intro K hK; refine Wl_fieldAddr (k := ?_); refine Wl_loadR (k := ?_); refine Wl_storeR (ho' := rfl) (k := ?_); (refine Wl_nil (hK _ _ ?_); clear hK K))
    | (refine Wc_region (id := 11) ?_; intro K hK; refine Wl_add (k' := ?_); refine Wl_move (k := ?_); (refine Wl_nil (hK _ _ ?_); clear hK K))
    | (refine Wc_region (id := 12) ?_; intro K hK; (refine Wl_lit0o (k := ?_); intro r); refine Wl_slice_arr0 (k' := ?_))
    | (refine Wc_cond (ht := (fun ht => ?_)) (hf := (fun ht => ?_)) <;> (try simp at ht) <;> (try (exfalso; omega))))
  refine Wc_take (y := own pa _ _ _ _ _) (k := (Wc_own ?_ ?_))
  · intro e1 e2 e3 e4
    have e5 : D.pend = [] := List.length_eq_zero_iff.1 e2
    subst e1 e3
    rw [e2]
    have hseen : D.seen i = (D.kept.drop (64 * i)).take 64 := by simp [Dk.seen, e5]
    rw [← hseen] at hsl ⊢
    refine Wc_loop0 ?_
    repeat' (first
      | refine Wc_seq ?_
      | refine thenQ_normal ?_
      | refine Wc_cond_t (h := ?_)
      | refine Wc_cond_f (h := ?_)
      | refine Wc_ret ?_
      | refine thenQ_ret ?_
      | refine Wc_block ?_
      | refine blkQ_normal ?_
      | refine blkQ_ret ?_
      | refine Wc_exit ?_
      | refine thenQ_exit ?_
      | refine blkQ_hit ?_
      | refine blkQ_miss rfl ?_
      | refine Wc_skip ?_
      | refine Wc_label ?_
      | refine loopQ_exit ?_
      | refine loopQ_ret ?_
      | refine loopQ_normal ?_
      | (refine Wc_region (id := 0) ?_; intro K hK; refine Wl_assign (k := ?_); refine Wl_assign (k := ?_); (refine Wl_nil (hK _ _ ?_); clear hK K))
      | (refine Wc_region (id := 1) ?_; intro K hK; refine Wl_move (k := ?_); refine Wl_ptr_eq_nil (k' := ?_); refine Wl_move (k := ?_); ((first | (refine Wl_guard (k := ?_); refine Wl_move (k := ?_)) | refine Wl_gno (k := ?_) | ((refine Wl_split (yes := (fun ht => ?_)) (no := (fun ht => ?_)) <;> (try simp at ht) <;> (try (exfalso; omega))) <;> (first | (refine Wl_guard (k := ?_); refine Wl_move (k := ?_)) | refine Wl_gno (k := ?_))))) <;> (((first | (refine Wl_guard (k := ?_); refine Wl_lss (k' := ?_)) | refine Wl_gno (k := ?_) | ((refine Wl_split (yes := (fun ht => ?_)) (no := (fun ht => ?_)) <;> (try simp at ht) <;> (try (exfalso; omega))) <;> (first | (refine Wl_guard (k := ?_); refine Wl_lss (k' := ?_)) | refine Wl_gno (k := ?_))))) <;> ((first | refine Wl_pick_t (k := ?_) | refine Wl_pick_f (k := ?_) | refine Wl_pick (k := ?_)); refine Wl_move (k := ?_); ((first | (refine Wl_guard (k := ?_); refine Wl_move (k := ?_)) | refine Wl_gno (k := ?_) | ((refine Wl_split (yes := (fun ht => ?_)) (no := (fun ht => ?_)) <;> (try simp at ht) <;> (try (exfalso; omega))) <;> (first | (refine Wl_guard (k := ?_); refine Wl_move (k := ?_)) | refine Wl_gno (k := ?_))))) <;> (((first | (refine Wl_guard (k := ?_); refine Wl_move (k := ?_)) | refine Wl_gno (k := ?_) | ((refine Wl_split (yes := (fun ht => ?_)) (no := (fun ht => ?_)) <;> (try simp at ht) <;> (try (exfalso; omega))) <;> (first | (refine Wl_guard (k := ?_); refine Wl_move (k := ?_)) | refine Wl_gno (k := ?_))))) <;> (((first | (refine Wl_guard (k := ?_); refine Wl_nilCheck (k := ?_)) | refine Wl_gno (k := ?_) | ((refine Wl_split (yes := (fun ht => ?_)) (no := (fun ht => ?_)) <;> (try simp at ht) <;> (try (exfalso; omega))) <;> (first | (refine Wl_guard (k := ?_); refine Wl_nilCheck (k := ?_)) | refine Wl_gno (k := ?_))))) <;> (((first | (refine Wl_guard (k := ?_); refine Wl_fieldAddr (k := ?_)) | refine Wl_gno (k := ?_) | ((refine Wl_split (yes := (fun ht => ?_)) (no := (fun ht => ?_)) <;> (try simp at ht) <;> (try (exfalso; omega))) <;> (first | (refine Wl_guard (k := ?_); refine Wl_fieldAddr (k := ?_)) | refine Wl_gno (k := ?_))))) <;> (((first | (refine Wl_guard (k := ?_); refine Wl_load (k := ?_)) | refine Wl_gno (k := ?_) | ((refine Wl_split (yes := (fun ht => ?_)) (no := (fun ht => ?_)) <;> (try simp at ht) <;> (try (exfalso; omega))) <;> (first | (refine Wl_guard (k := ?_); refine Wl_load (k := ?_)) | refine Wl_gno (k := ?_))))) <;> (((first | (refine Wl_guard (k := ?_); refine Wl_len_sl (k' := ?_)) | refine Wl_gno (k := ?_) | ((refine Wl_split (yes := (fun ht => ?_)) (no := (fun ht => ?_)) <;> (try simp at ht) <;> (try (exfalso; omega))) <;> (first | (refine Wl_guard (k := ?_); refine Wl_len_sl (k' := ?_)) | refine Wl_gno (k := ?_))))) <;> (((first | (refine Wl_guard (k := ?_); refine Wl_geq (k' := ?_)) | refine Wl_gno (k := ?_) | ((refine Wl_split (yes := (fun ht => ?_)) (no := (fun ht => ?_)) <;> (try simp at ht) <;> (try (exfalso; omega))) <;> (first | (refine Wl_guard (k := ?_); refine Wl_geq (k' := ?_)) | refine Wl_gno (k := ?_))))) <;> ((first | refine Wl_pick_t (k := ?_) | refine Wl_pick_f (k := ?_) | refine Wl_pick (k := ?_)); (refine Wl_nil (hK _ _ ?_); clear hK K)))))))))))
      | (refine Wc_region (id := 2) ?_; intro K hK; refine Wl_assign (k := ?_); refine Wl_assign (k := ?_); (refine Wl_nil (hK _ _ ?_); clear hK K))
      | (refine Wc_region (id := 3) ?_; intro K hK; refine Wl_move (k := ?_); refine Wl_nilCheck (k := ?_); refine Wl_fieldAddr (k := ?_); refine Wl_load (k := ?_); (refine Wl_nil (hK _ _ ?_); clear hK K))
      | (refine Wc_region (id := 4) ?_; intro K hK; refine Wl_assign (k := ?_); refine Wl_assign (k := ?_); (refine Wl_nil (hK _ _ ?_); clear hK K))
      | (refine Wc_region (id := 5) ?_; intro K hK; refine Wl_move (k := ?_); refine Wl_nilCheck (k := ?_); refine Wl_fieldAddr (k := ?_); refine Wl_load (k := ?_); refine Wl_move (k := ?_); refine Wl_index_sl (k' := ?_); refine Wl_loadR (k := ?_); (refine Wl_alloc (k := ?_); intro r); refine Wl_storeR (ho' := rfl) (k := ?_); (refine Wl_nil (hK _ _ ?_); clear hK K))
      | (refine Wc_region (id := 6) ?_; intro K hK; refine Wl_move (k := ?_); refine Wl_nilCheck (k := ?_); refine Wl_fieldAddr (k := ?_); refine Wl_load (k := ?_); refine Wl_len_sl (k' := ?_); refine Wl_move (k := ?_); (refine Wl_nil (hK _ _ ?_); clear hK K))
      | (refine Wc_region (id := 7) ?_; intro K hK; refine Wl_lss (k' := ?_); (refine Wl_nil (hK _ _ ?_); clear hK K))
      | (refine Wc_region (id := 8) ?_; intro K hK; refine Wl_index_sl (k' := ?_); refine Wl_loadR (k := ?_); (refine Wl_alloc (k := ?_); intro r); refine Wl_storeR (ho' := rfl) (k := ?_); (refine Wl_nil (hK _ _ ?_); clear hK K))
      | (refine Wc_region (id := 9) ?_; intro K hK; refine Wl_fieldAddr (k := ?_); refine Wl_load (k := ?_); refine Wl_move (k := ?_); refine Wl_eql (k' := ?_); (refine Wl_nil (hK _ _ ?_); clear hK K))
      | (refine Wc_region (id := 10) ?_; intro K hK; refine Wl_fieldAddr (k := ?_); refine Wl_loadR (k := ?_); refine Wl_storeR (ho' := rfl) (k := ?_); (refine Wl_nil (hK _ _ ?_); clear hK K))
      | (refine Wc_region (id := 11) ?_; intro K hK; refine Wl_add (k' := ?_); refine Wl_move (k := ?_); (refine Wl_nil (hK _ _ ?_); clear hK K))
      | (refine Wc_region (id := 12) ?_; intro K hK; (refine Wl_lit0o (k := ?_); intro r); refine Wl_slice_arr0 (k' := ?_); ((refine Wl_appendS (vs := (D.seen i).map byteV) (hol := (by simp [hsl])) (hvs := (take64 _ hsl)) (hvc := (byteV_all _)) (hbd := (by omega)) (k := ?_); intro a' c')) <;> (refine Wl_assign (k := ?_); refine Wl_assign (k := ?_); (refine Wl_nil (hK _ _ ?_); clear hK K)))
      | (refine Wc_cond (ht := (fun ht => ?_)) (hf := (fun ht => ?_)) <;> (try simp at ht) <;> (try (exfalso; omega))))
    refine ⟨Or.inr rfl, _, [own a' 64 c' 1 _ _, _], ?_, res2 rfl rfl rfl, a', c', rfl, rfl⟩
    refine Ent.take (by (repeat (first | exact Out.head | apply Out.tail)); (first | done | fail)) (fold_disk (A0 := []) (bk := bk) (pa := none) (pc := 0) ?_)
    simp only [DiskL, hd, e5, List.length_nil]
    simp only [List.cons_append, List.nil_append]
    refine Ent.trans ?_ ((own_nil 65 104 _).trans (Ent.perm (List.perm_append_comm (l₁ := [_]) (l₂ := [_, _]))))
    (repeat (first | exact Ent.refl _ | exact Ent.nil | refine Ent.take (by (repeat (first | exact Out.head | apply Out.tail)); (first | done | fail)) ?_ | refine Ent.drop1 ?_))
  · intro rp spare e1 e2 e3
    subst e1
    refine Wc_loop (α := Nat) (fun k => [(0, .pointer (some ⟨p, 0, none⟩)), (1, .int .i64 i), (6, .pointer (some ⟨r, 0, none⟩)), (38, .slice (some ⟨rp, 0, none⟩) D.pend.length pc), (39, .int .i64 D.pend.length), (40, .int .i64 k)])
      (fun k => [cb r (((D.pend.take k).foldl (seen1 i) ((D.kept.drop (64 * i)).take 64)).map byteV) 102, cb rp (pcells D.pend ++ spare) 104, cb p [.slice (some ⟨bk, 0, none⟩) n n, .slice (some ⟨rp, 0, none⟩) D.pend.length pc,
        .int .i64 D.fuse, .bool false, .int .i64 D.steps] 77, cb bk (D.kept.map byteV) 102])
      (fun k => k ≤ D.pend.length) (fun k => D.pend.length - k) 0 (by omega) ⟨rfl, rfl, rfl, rfl, rfl, rfl, trivial⟩ (by (repeat (first | exact Ent.refl _ | exact Ent.nil | refine Ent.take (by (repeat (first | exact Out.head | apply Out.tail)); (first | done | fail)) ?_ | refine Ent.drop1 ?_))) ?_
    intro k G hk
    simp only [ov]
    by_cases hk2 : k < D.pend.length
    · obtain ⟨q, hq⟩ : ∃ q, D.pend[k]? = some q := ⟨_, List.getElem?_eq_getElem hk2⟩
      have hqm := h.pend q (List.mem_of_getElem? hq)
      have hq1 := hqm.1; have hq2 := hqm.2
      have hpl := pcells_length D.pend (fun x hx => (h.pend x hx).2)
      have hkl := seen_length i (D.pend.take k) _ hsl (fun x hx => (h.pend x (List.mem_of_mem_take hx)).2)
      repeat' (first
        | refine Wc_seq ?_
        | refine thenQ_normal ?_
        | refine Wc_cond_t (h := ?_)
        | refine Wc_cond_f (h := ?_)
        | refine Wc_ret ?_
        | refine thenQ_ret ?_
        | refine Wc_block ?_
        | refine blkQ_normal ?_
        | refine blkQ_ret ?_
        | refine Wc_exit ?_
        | refine thenQ_exit ?_
        | refine blkQ_hit ?_
        | refine blkQ_miss rfl ?_
        | refine Wc_skip ?_
        | refine Wc_label ?_
        | refine loopQ_exit ?_
        | refine loopQ_ret ?_
        | refine loopQ_normal ?_
        | (refine Wc_region (id := 0) ?_; intro K hK; refine Wl_assign (k := ?_); refine Wl_assign (k := ?_); (refine Wl_nil (hK _ _ ?_); clear hK K))
        | (refine Wc_region (id := 1) ?_; intro K hK; refine Wl_move (k := ?_); refine Wl_ptr_eq_nil (k' := ?_); refine Wl_move (k := ?_); ((first | (refine Wl_guard (k := ?_); refine Wl_move (k := ?_)) | refine Wl_gno (k := ?_) | ((refine Wl_split (yes := (fun ht => ?_)) (no := (fun ht => ?_)) <;> (try simp at ht) <;> (try (exfalso; omega))) <;> (first | (refine Wl_guard (k := ?_); refine Wl_move (k := ?_)) | refine Wl_gno (k := ?_))))) <;> (((first | (refine Wl_guard (k := ?_); refine Wl_lss (k' := ?_)) | refine Wl_gno (k := ?_) | ((refine Wl_split (yes := (fun ht => ?_)) (no := (fun ht => ?_)) <;> (try simp at ht) <;> (try (exfalso; omega))) <;> (first | (refine Wl_guard (k := ?_); refine Wl_lss (k' := ?_)) | refine Wl_gno (k := ?_))))) <;> ((first | refine Wl_pick_t (k := ?_) | refine Wl_pick_f (k := ?_) | refine Wl_pick (k := ?_)); refine Wl_move (k := ?_); ((first | (refine Wl_guard (k := ?_); refine Wl_move (k := ?_)) | refine Wl_gno (k := ?_) | ((refine Wl_split (yes := (fun ht => ?_)) (no := (fun ht => ?_)) <;> (try simp at ht) <;> (try (exfalso; omega))) <;> (first | (refine Wl_guard (k := ?_); refine Wl_move (k := ?_)) | refine Wl_gno (k := ?_))))) <;> (((first | (refine Wl_guard (k := ?_); refine Wl_move (k := ?_)) | refine Wl_gno (k := ?_) | ((refine Wl_split (yes := (fun ht => ?_)) (no := (fun ht => ?_)) <;> (try simp at ht) <;> (try (exfalso; omega))) <;> (first | (refine Wl_guard (k := ?_); refine Wl_move (k := ?_)) | refine Wl_gno (k := ?_))))) <;> (((first | (refine Wl_guard (k := ?_); refine Wl_nilCheck (k := ?_)) | refine Wl_gno (k := ?_) | ((refine Wl_split (yes := (fun ht => ?_)) (no := (fun ht => ?_)) <;> (try simp at ht) <;> (try (exfalso; omega))) <;> (first | (refine Wl_guard (k := ?_); refine Wl_nilCheck (k := ?_)) | refine Wl_gno (k := ?_))))) <;> (((first | (refine Wl_guard (k := ?_); refine Wl_fieldAddr (k := ?_)) | refine Wl_gno (k := ?_) | ((refine Wl_split (yes := (fun ht => ?_)) (no := (fun ht => ?_)) <;> (try simp at ht) <;> (try (exfalso; omega))) <;> (first | (refine Wl_guard (k := ?_); refine Wl_fieldAddr (k := ?_)) | refine Wl_gno (k := ?_))))) <;> (((first | (refine Wl_guard (k := ?_); refine Wl_load (k := ?_)) | refine Wl_gno (k := ?_) | ((refine Wl_split (yes := (fun ht => ?_)) (no := (fun ht => ?_)) <;> (try simp at ht) <;> (try (exfalso; omega))) <;> (first | (refine Wl_guard (k := ?_); refine Wl_load (k := ?_)) | refine Wl_gno (k := ?_))))) <;> (((first | (refine Wl_guard (k := ?_); refine Wl_len_sl (k' := ?_)) | refine Wl_gno (k := ?_) | ((refine Wl_split (yes := (fun ht => ?_)) (no := (fun ht => ?_)) <;> (try simp at ht) <;> (try (exfalso; omega))) <;> (first | (refine Wl_guard (k := ?_); refine Wl_len_sl (k' := ?_)) | refine Wl_gno (k := ?_))))) <;> (((first | (refine Wl_guard (k := ?_); refine Wl_geq (k' := ?_)) | refine Wl_gno (k := ?_) | ((refine Wl_split (yes := (fun ht => ?_)) (no := (fun ht => ?_)) <;> (try simp at ht) <;> (try (exfalso; omega))) <;> (first | (refine Wl_guard (k := ?_); refine Wl_geq (k' := ?_)) | refine Wl_gno (k := ?_))))) <;> ((first | refine Wl_pick_t (k := ?_) | refine Wl_pick_f (k := ?_) | refine Wl_pick (k := ?_)); (refine Wl_nil (hK _ _ ?_); clear hK K)))))))))))
        | (refine Wc_region (id := 2) ?_; intro K hK; refine Wl_assign (k := ?_); refine Wl_assign (k := ?_); (refine Wl_nil (hK _ _ ?_); clear hK K))
        | (refine Wc_region (id := 3) ?_; intro K hK; refine Wl_move (k := ?_); refine Wl_nilCheck (k := ?_); refine Wl_fieldAddr (k := ?_); refine Wl_load (k := ?_); (refine Wl_nil (hK _ _ ?_); clear hK K))
        | (refine Wc_region (id := 4) ?_; intro K hK; refine Wl_assign (k := ?_); refine Wl_assign (k := ?_); (refine Wl_nil (hK _ _ ?_); clear hK K))
        | (refine Wc_region (id := 5) ?_; intro K hK; refine Wl_move (k := ?_); refine Wl_nilCheck (k := ?_); refine Wl_fieldAddr (k := ?_); refine Wl_load (k := ?_); refine Wl_move (k := ?_); refine Wl_index_sl (k' := ?_); refine Wl_loadR (k := ?_); (refine Wl_alloc (k := ?_); intro r); refine Wl_storeR (ho' := rfl) (k := ?_); (refine Wl_nil (hK _ _ ?_); clear hK K))
        | (refine Wc_region (id := 6) ?_; intro K hK; refine Wl_move (k := ?_); refine Wl_nilCheck (k := ?_); refine Wl_fieldAddr (k := ?_); refine Wl_load (k := ?_); refine Wl_len_sl (k' := ?_); refine Wl_move (k := ?_); (refine Wl_nil (hK _ _ ?_); clear hK K))
        | (refine Wc_region (id := 7) ?_; intro K hK; refine Wl_lss (k' := ?_); (refine Wl_nil (hK _ _ ?_); clear hK K))
        | (refine Wc_region (id := 8) ?_; intro K hK; refine Wl_index_sl (k' := ?_); ((refine Wl_loadAgg (cs := .int .i64 q.1 :: q.2.map byteV) (hv := (by simp [hpl]; omega)) (hc := (by simpa using pcells_get D.pend k q spare (fun x hx => (h.pend x hx).2) hq)) (k := ?_))) <;> (((refine Wl_alloc (k := ?_); intro rw8)) <;> (((refine Wl_storeRow (hv := (cell_all _ _)) (hl := (by simp [hq2])) (ho := (by simp)) (hs := (setL_all _ _ (by simp [hq2]))) (ho' := rfl) (k := ?_))) <;> ((refine Wl_nil (hK _ _ ?_); clear hK K)))))
        | (refine Wc_region (id := 9) ?_; intro K hK; refine Wl_fieldAddr (k := ?_); refine Wl_load (k := ?_); refine Wl_move (k := ?_); refine Wl_eql (k' := ?_); (refine Wl_nil (hK _ _ ?_); clear hK K))
        | (refine Wc_region (id := 10) ?_; intro K hK; refine Wl_fieldAddr (k := ?_); ((refine Wl_loadAgg (cs := q.2.map byteV) (hv := (by simp [hq2])) (hc := (take64 q.2 hq2)) (k := ?_))) <;> (((refine Wl_storeRow (l' := q.2.map byteV) (hv := (byteV_all _)) (hl := (by simp [hq2])) (ho := (by simp [hkl])) (hs := (setL_all _ _ (by simp [hkl, hq2]))) (ho' := rfl) (k := ?_))) <;> ((refine Wl_nil (hK _ _ ?_); clear hK K))))
        | (refine Wc_region (id := 11) ?_; intro K hK; refine Wl_add (k' := ?_); refine Wl_move (k := ?_); (refine Wl_nil (hK _ _ ?_); clear hK K))
        | (refine Wc_region (id := 12) ?_; intro K hK; (refine Wl_lit0o (k := ?_); intro r); refine Wl_slice_arr0 (k' := ?_))
        | (refine Wc_cond (ht := (fun ht => ?_)) (hf := (fun ht => ?_)) <;> (try simp at ht) <;> (try (exfalso; omega))))
      · refine ⟨k + 1, by omega, by omega, ⟨rfl, rfl, rfl, rfl, rfl, int_succ k, trivial⟩, ?_⟩
        rw [take_snoc' hq, List.foldl_append, List.foldl_cons, List.foldl_nil, seen1, if_pos (by omega)]
        (repeat (first | exact Ent.refl _ | exact Ent.nil | refine Ent.take (by (repeat (first | exact Out.head | apply Out.tail)); (first | done | fail)) ?_ | refine Ent.drop1 ?_))
      · refine ⟨k + 1, by omega, by omega, ⟨rfl, rfl, rfl, rfl, rfl, int_succ k, trivial⟩, ?_⟩
        rw [take_snoc' hq, List.foldl_append, List.foldl_cons, List.foldl_nil, seen1, if_neg (by omega)]
        (repeat (first | exact Ent.refl _ | exact Ent.nil | refine Ent.take (by (repeat (first | exact Out.head | apply Out.tail)); (first | done | fail)) ?_ | refine Ent.drop1 ?_))
    · have hk3 : k = D.pend.length := by omega
      subst hk3
      have hse : (D.seen i).length = 64 := seen_length i D.pend _ hsl (fun x hx => (h.pend x hx).2)
      have hss : (D.pend.take D.pend.length).foldl (seen1 i) ((D.kept.drop (64 * i)).take 64) = D.seen i := by rw [List.take_length]; rfl
      rw [hss]
      repeat' (first
        | refine Wc_seq ?_
        | refine thenQ_normal ?_
        | refine Wc_cond_t (h := ?_)
        | refine Wc_cond_f (h := ?_)
        | refine Wc_ret ?_
        | refine thenQ_ret ?_
        | refine Wc_block ?_
        | refine blkQ_normal ?_
        | refine blkQ_ret ?_
        | refine Wc_exit ?_
        | refine thenQ_exit ?_
        | refine blkQ_hit ?_
        | refine blkQ_miss rfl ?_
        | refine Wc_skip ?_
        | refine Wc_label ?_
        | refine loopQ_exit ?_
        | refine loopQ_ret ?_
        | refine loopQ_normal ?_
        | (refine Wc_region (id := 0) ?_; intro K hK; refine Wl_assign (k := ?_); refine Wl_assign (k := ?_); (refine Wl_nil (hK _ _ ?_); clear hK K))
        | (refine Wc_region (id := 1) ?_; intro K hK; refine Wl_move (k := ?_); refine Wl_ptr_eq_nil (k' := ?_); refine Wl_move (k := ?_); ((first | (refine Wl_guard (k := ?_); refine Wl_move (k := ?_)) | refine Wl_gno (k := ?_) | ((refine Wl_split (yes := (fun ht => ?_)) (no := (fun ht => ?_)) <;> (try simp at ht) <;> (try (exfalso; omega))) <;> (first | (refine Wl_guard (k := ?_); refine Wl_move (k := ?_)) | refine Wl_gno (k := ?_))))) <;> (((first | (refine Wl_guard (k := ?_); refine Wl_lss (k' := ?_)) | refine Wl_gno (k := ?_) | ((refine Wl_split (yes := (fun ht => ?_)) (no := (fun ht => ?_)) <;> (try simp at ht) <;> (try (exfalso; omega))) <;> (first | (refine Wl_guard (k := ?_); refine Wl_lss (k' := ?_)) | refine Wl_gno (k := ?_))))) <;> ((first | refine Wl_pick_t (k := ?_) | refine Wl_pick_f (k := ?_) | refine Wl_pick (k := ?_)); refine Wl_move (k := ?_); ((first | (refine Wl_guard (k := ?_); refine Wl_move (k := ?_)) | refine Wl_gno (k := ?_) | ((refine Wl_split (yes := (fun ht => ?_)) (no := (fun ht => ?_)) <;> (try simp at ht) <;> (try (exfalso; omega))) <;> (first | (refine Wl_guard (k := ?_); refine Wl_move (k := ?_)) | refine Wl_gno (k := ?_))))) <;> (((first | (refine Wl_guard (k := ?_); refine Wl_move (k := ?_)) | refine Wl_gno (k := ?_) | ((refine Wl_split (yes := (fun ht => ?_)) (no := (fun ht => ?_)) <;> (try simp at ht) <;> (try (exfalso; omega))) <;> (first | (refine Wl_guard (k := ?_); refine Wl_move (k := ?_)) | refine Wl_gno (k := ?_))))) <;> (((first | (refine Wl_guard (k := ?_); refine Wl_nilCheck (k := ?_)) | refine Wl_gno (k := ?_) | ((refine Wl_split (yes := (fun ht => ?_)) (no := (fun ht => ?_)) <;> (try simp at ht) <;> (try (exfalso; omega))) <;> (first | (refine Wl_guard (k := ?_); refine Wl_nilCheck (k := ?_)) | refine Wl_gno (k := ?_))))) <;> (((first | (refine Wl_guard (k := ?_); refine Wl_fieldAddr (k := ?_)) | refine Wl_gno (k := ?_) | ((refine Wl_split (yes := (fun ht => ?_)) (no := (fun ht => ?_)) <;> (try simp at ht) <;> (try (exfalso; omega))) <;> (first | (refine Wl_guard (k := ?_); refine Wl_fieldAddr (k := ?_)) | refine Wl_gno (k := ?_))))) <;> (((first | (refine Wl_guard (k := ?_); refine Wl_load (k := ?_)) | refine Wl_gno (k := ?_) | ((refine Wl_split (yes := (fun ht => ?_)) (no := (fun ht => ?_)) <;> (try simp at ht) <;> (try (exfalso; omega))) <;> (first | (refine Wl_guard (k := ?_); refine Wl_load (k := ?_)) | refine Wl_gno (k := ?_))))) <;> (((first | (refine Wl_guard (k := ?_); refine Wl_len_sl (k' := ?_)) | refine Wl_gno (k := ?_) | ((refine Wl_split (yes := (fun ht => ?_)) (no := (fun ht => ?_)) <;> (try simp at ht) <;> (try (exfalso; omega))) <;> (first | (refine Wl_guard (k := ?_); refine Wl_len_sl (k' := ?_)) | refine Wl_gno (k := ?_))))) <;> (((first | (refine Wl_guard (k := ?_); refine Wl_geq (k' := ?_)) | refine Wl_gno (k := ?_) | ((refine Wl_split (yes := (fun ht => ?_)) (no := (fun ht => ?_)) <;> (try simp at ht) <;> (try (exfalso; omega))) <;> (first | (refine Wl_guard (k := ?_); refine Wl_geq (k' := ?_)) | refine Wl_gno (k := ?_))))) <;> ((first | refine Wl_pick_t (k := ?_) | refine Wl_pick_f (k := ?_) | refine Wl_pick (k := ?_)); (refine Wl_nil (hK _ _ ?_); clear hK K)))))))))))
        | (refine Wc_region (id := 2) ?_; intro K hK; refine Wl_assign (k := ?_); refine Wl_assign (k := ?_); (refine Wl_nil (hK _ _ ?_); clear hK K))
        | (refine Wc_region (id := 3) ?_; intro K hK; refine Wl_move (k := ?_); refine Wl_nilCheck (k := ?_); refine Wl_fieldAddr (k := ?_); refine Wl_load (k := ?_); (refine Wl_nil (hK _ _ ?_); clear hK K))
        | (refine Wc_region (id := 4) ?_; intro K hK; refine Wl_assign (k := ?_); refine Wl_assign (k := ?_); (refine Wl_nil (hK _ _ ?_); clear hK K))
        | (refine Wc_region (id := 5) ?_; intro K hK; refine Wl_move (k := ?_); refine Wl_nilCheck (k := ?_); refine Wl_fieldAddr (k := ?_); refine Wl_load (k := ?_); refine Wl_move (k := ?_); refine Wl_index_sl (k' := ?_); refine Wl_loadR (k := ?_); (refine Wl_alloc (k := ?_); intro r); refine Wl_storeR (ho' := rfl) (k := ?_); (refine Wl_nil (hK _ _ ?_); clear hK K))
        | (refine Wc_region (id := 6) ?_; intro K hK; refine Wl_move (k := ?_); refine Wl_nilCheck (k := ?_); refine Wl_fieldAddr (k := ?_); refine Wl_load (k := ?_); refine Wl_len_sl (k' := ?_); refine Wl_move (k := ?_); (refine Wl_nil (hK _ _ ?_); clear hK K))
        | (refine Wc_region (id := 7) ?_; intro K hK; refine Wl_lss (k' := ?_); (refine Wl_nil (hK _ _ ?_); clear hK K))
        | (refine Wc_region (id := 8) ?_; intro K hK; ((skip)) <;> (refine Wl_loadR (k := ?_); (refine Wl_alloc (k := ?_); intro r); refine Wl_storeR (ho' := rfl) (k := ?_); (refine Wl_nil (hK _ _ ?_); clear hK K)))
        | (refine Wc_region (id := 9) ?_; intro K hK; refine Wl_fieldAddr (k := ?_); refine Wl_load (k := ?_); refine Wl_move (k := ?_); refine Wl_eql (k' := ?_); (refine Wl_nil (hK _ _ ?_); clear hK K))
        | (refine Wc_region (id := 10) ?_; intro K hK; refine Wl_fieldAddr (k := ?_); refine Wl_loadR (k := ?_); refine Wl_storeR (ho' := rfl) (k := ?_); (refine Wl_nil (hK _ _ ?_); clear hK K))
        | (refine Wc_region (id := 11) ?_; intro K hK; refine Wl_add (k' := ?_); refine Wl_move (k := ?_); (refine Wl_nil (hK _ _ ?_); clear hK K))
        | (refine Wc_region (id := 12) ?_; intro K hK; ((refine Wl_lit0o (k := ?_); intro r51)) <;> (refine Wl_slice_arr0 (k' := ?_); ((refine Wl_appendS (vs := (D.seen i).map byteV) (hol := (by simp [hse])) (hvs := (take64 _ hse)) (hvc := (byteV_all _)) (hbd := (by omega)) (k := ?_); intro a' c')) <;> (refine Wl_assign (k := ?_); refine Wl_assign (k := ?_); (refine Wl_nil (hK _ _ ?_); clear hK K))))
        | (refine Wc_cond (ht := (fun ht => ?_)) (hf := (fun ht => ?_)) <;> (try simp at ht) <;> (try (exfalso; omega))))
      refine ⟨Or.inr rfl, _, [own a' 64 c' 1 _ _, _], ?_, res2 rfl rfl rfl, a', c', rfl, rfl⟩
      refine Ent.take (by (repeat (first | exact Out.head | apply Out.tail)); (first | done | fail)) (fold_disk (A0 := []) (bk := bk) (pa := some ⟨rp, 0, none⟩) (pc := pc) ?_)
      simp only [DiskL, hd]
      simp only [List.cons_append, List.nil_append]
      refine Ent.trans ?_ (Ent.perm (List.perm_append_comm (l₁ := [_]) (l₂ := [_, _])))
      refine Ent.trans ?_ (own_shut rp D.pend.length pc 65 (pcells D.pend) spare _ _ e2 e3)
      (repeat (first | exact Ent.refl _ | exact Ent.nil | refine Ent.take (by (repeat (first | exact Out.head | apply Out.tail)); (first | done | fail)) ?_ | refine Ent.drop1 ?_))
end specs
end Go.Proofs.Ytepeljbgekgjcaa
/- Package disk, the rest: Crash, Fuse, what is told. Conditions as in XDisk. -/
set_option maxHeartbeats 8000000
set_option linter.unusedVariables false
set_option linter.unusedSimpArgs false
set_option maxRecDepth 100000
namespace Go.Proofs.Ytepeljbgekgjcaa
open Go Go.Sl
attribute [local irreducible] Go.Sl.Wl Go.Sl.Wc Go.Sl.thenQ Go.Sl.blkQ Go.Sl.loopQ Go.Sl.Fspec

def crash1 (K : List UInt8) (q : Nat × List UInt8) (n : Nat) : List UInt8 := K.take (64 * q.1) ++ (q.2.take n ++ K.drop (64 * q.1 + n))
def nOf (ch : List UInt8) (k : Nat) : Nat := match ch[k]? with | some c => c.toNat % 65 | none => 0
def crashF (ch : List UInt8) (K : List UInt8) (l : List (Nat × List UInt8)) : List UInt8 := l.zipIdx.foldl (fun K x => crash1 K x.1 (nOf ch x.2)) K
def Dk.crash (D : Dk) (ch : List UInt8) : Dk := { D with kept := crashF ch D.kept D.pend, pend := [], down := false, fuse := -1 }
def Dk.fused (D : Dk) (k : Int) : Dk := { D with fuse := max k (-1) }
theorem nOf_le (ch : List UInt8) (k : Nat) : nOf ch k ≤ 64 := by
  unfold nOf; split <;> omega
theorem crashF_snoc (ch K : List UInt8) (l : List (Nat × List UInt8)) (q : Nat × List UInt8) : crashF ch K (l ++ [q]) = crash1 (crashF ch K l) q (nOf ch l.length) := by
  simp [crashF, List.zipIdx_append]
theorem crash1_length (K : List UInt8) (q : Nat × List UInt8) (m n : Nat) (h : K.length = 64 * n) (h1 : q.1 < n) (h2 : q.2.length = 64) (hm : m ≤ 64) : (crash1 K q m).length = 64 * n := by
  simp [crash1, h2]; omega
theorem crashF_length (n : Nat) (ch : List UInt8) (K : List UInt8) (hK : K.length = 64 * n) (l : List (Nat × List UInt8)) (hl : ∀ q ∈ l, q.1 < n ∧ q.2.length = 64) : (crashF ch K l).length = 64 * n := by
  unfold crashF
  suffices H : ∀ (l : List (Nat × List UInt8)) (j : Nat) (K : List UInt8), K.length = 64 * n → (∀ q ∈ l, q.1 < n ∧ q.2.length = 64) → ((l.zipIdx j).foldl (fun K x => crash1 K x.1 (nOf ch x.2)) K).length = 64 * n from H l 0 K hK hl
  intro l
  induction l with
  | nil => exact fun _ _ h _ => h
  | cons q l ih =>
    intro j K h hl
    rw [List.zipIdx_cons, List.foldl_cons]
    have hq := hl q (List.mem_cons_self ..)
    exact ih _ _ (crash1_length K q _ n h hq.1 hq.2 (nOf_le ch j)) (fun x hx => hl x (List.mem_cons_of_mem _ hx))
theorem Dk.crash_ok {D : Dk} {n : Nat} {ch : List UInt8} (h : D.ok n) : (D.crash ch).ok n :=
  ⟨crashF_length n ch _ h.len _ h.pend, by simp [Dk.crash], by simp [Dk.crash], by simp [Dk.crash], h.steps, h.n⟩
theorem Dk.fused_ok {D : Dk} {n : Nat} {k : Int} (h : D.ok n) (hk : k ≤ 9223372036854775807) : (D.fused k).ok n := ⟨h.len, h.pend, h.few, by simp only [Dk.fused]; omega, h.steps, h.n⟩
theorem byteV_take (l : List UInt8) (n : Nat) : ((l.map byteV).take n).all isCell = true := by rw [← List.map_take]; exact byteV_all _
theorem setL_crash (K : List UInt8) (q : Nat × List UInt8) (m n : Nat) (h : K.length = 64 * n) (h1 : q.1 < n) (h2 : q.2.length = 64) (hm : m ≤ 64) :
    setL (K.map byteV) (q.1 * 64) ((q.2.map byteV).take m) = (crash1 K q m).map byteV := by
  rw [setL_eq _ _ _ (by simp [h, h2]; omega)]
  have : min m 64 = m := by omega
  simp [crash1, h2, Nat.mul_comm, this]

section specs
variable (B : Base)
theorem crash_ok (p n : Nat) (D : Dk) (h : D.ok n) (a : Option Addr) (m c : Nat) (ch : List UInt8) (A0 : List Asn) (hsrc : RdS Try.prog B A0 1 a m c (ch.map byteV)) (hm : m ≤ 9223372036854775807) :
    Fspec Try.prog B 18 #[.pointer (some ⟨p, 0, none⟩), .slice a m c] (DiskP p n D :: A0)
      (fun v A' => v = .tuple #[] ∧ A' = DiskP p n (D.crash ch) :: A0) := by
  have hfew := h.few; have hn := h.n
  have hcl : ch.length = m := by have := hsrc.len; simpa using this
  refine spec_of (args := [_, _]) Try.func18 rfl rfl rfl ?_
  refine Wc_exN (fun x => ?_)
  obtain ⟨bk, pa, pc⟩ := x
  simp only [DiskL]
  simp only [List.cons_append, List.nil_append]
  repeat' (first
    | refine Wc_seq ?_
    | refine thenQ_normal ?_
    | refine Wc_cond_t (h := ?_)
    | refine Wc_cond_f (h := ?_)
    | refine Wc_ret ?_
    | refine thenQ_ret ?_
    | refine Wc_block ?_
    | refine blkQ_normal ?_
    | refine blkQ_ret ?_
    | refine Wc_exit ?_
    | refine thenQ_exit ?_
    | refine blkQ_hit ?_
    | refine blkQ_miss rfl ?_
    | refine Wc_skip ?_
    | refine Wc_label ?_
    | refine loopQ_exit ?_
    | refine loopQ_ret ?_
    | refine loopQ_normal ?_
    | (refine Wc_region (id := 0) ?_; intro K hK; refine Wl_move (k := ?_); refine Wl_ptr_eq_nil (k' := ?_); (refine Wl_nil (hK _ _ ?_); clear hK K))
    | (refine Wc_region (id := 1) ?_; intro K hK; refine Wl_move (k := ?_); refine Wl_nilCheck (k := ?_); refine Wl_fieldAddr (k := ?_); refine Wl_load (k := ?_); refine Wl_len_sl (k' := ?_); refine Wl_move (k := ?_); (refine Wl_nil (hK _ _ ?_); clear hK K))
    | (refine Wc_region (id := 2) ?_; intro K hK; refine Wl_lss (k' := ?_); (refine Wl_nil (hK _ _ ?_); clear hK K))
    | (refine Wc_region (id := 3) ?_; intro K hK; refine Wl_move (k := ?_); refine Wl_index_sl (k' := ?_); refine Wl_loadR (k := ?_); (refine Wl_alloc (k := ?_); intro r); refine Wl_assign (k := ?_); refine Wl_storeR (ho' := rfl) (k := ?_); (refine Wl_nil (hK _ _ ?_); clear hK K))
    | (refine Wc_region (id := 4) ?_; intro K hK; refine Wl_assign (k := ?_); (refine Wl_nil (hK _ _ ?_); clear hK K))
    | (refine Wc_region (id := 5) ?_; intro K hK; refine Wl_move (k := ?_); refine Wl_move (k := ?_); refine Wl_len_sl (k' := ?_); refine Wl_lss (k' := ?_); (refine Wl_nil (hK _ _ ?_); clear hK K))
    | (refine Wc_region (id := 6) ?_; intro K hK; refine Wl_move (k := ?_); refine Wl_move (k := ?_); refine Wl_index_sl (k' := ?_); refine Wl_load (k := ?_); refine Wl_conv (k' := ?_); refine Wl_rem (k' := ?_); refine Wl_assign (k := ?_); (refine Wl_nil (hK _ _ ?_); clear hK K))
    | (refine Wc_draw (id := 7) (h := ?_); intro K hK; refine Wl_move (k := ?_); refine Wl_nilCheck (k := ?_); refine Wl_fieldAddr (k := ?_); refine Wl_load (k := ?_); refine Wl_fieldAddr (k := ?_); refine Wl_load (k := ?_); refine Wl_index_sl (k' := ?_); refine Wl_move (k := ?_); refine Wl_slice_arr0 (k' := ?_); refine Wl_fieldAddr (k := ?_); refine Wl_move (k := ?_); refine Wl_slice_arr0 (k' := ?_))
    | (refine Wc_region (id := 8) ?_; intro K hK; refine Wl_add (k' := ?_); refine Wl_move (k := ?_); (refine Wl_nil (hK _ _ ?_); clear hK K))
    | (refine Wc_region (id := 9) ?_; intro K hK; refine Wl_move (k := ?_); refine Wl_move (k := ?_); refine Wl_move (k := ?_); refine Wl_nilCheck (k := ?_); refine Wl_fieldAddr (k := ?_); refine Wl_store (ho := rfl) (k := ?_); refine Wl_nilCheck (k := ?_); refine Wl_fieldAddr (k := ?_); refine Wl_store (ho := rfl) (k := ?_); refine Wl_nilCheck (k := ?_); refine Wl_fieldAddr (k := ?_); refine Wl_store (ho := rfl) (k := ?_); (refine Wl_nil (hK _ _ ?_); clear hK K))
    | (refine Wc_cond (ht := (fun ht => ?_)) (hf := (fun ht => ?_)) <;> (try simp at ht) <;> (try (exfalso; omega))))
  refine Wc_take (y := own pa _ _ _ _ _) (k := (Wc_own ?_ ?_))
  · intro e1 e2 e3 e4
    have e5 : D.pend = [] := List.length_eq_zero_iff.1 e2
    subst e1 e3
    rw [e2]
    refine Wc_loop0 ?_
    repeat' (first
      | refine Wc_seq ?_
      | refine thenQ_normal ?_
      | refine Wc_cond_t (h := ?_)
      | refine Wc_cond_f (h := ?_)
      | refine Wc_ret ?_
      | refine thenQ_ret ?_
      | refine Wc_block ?_
      | refine blkQ_normal ?_
      | refine blkQ_ret ?_
      | refine Wc_exit ?_
      | refine thenQ_exit ?_
      | refine blkQ_hit ?_
      | refine blkQ_miss rfl ?_
      | refine Wc_skip ?_
      | refine Wc_label ?_
      | refine loopQ_exit ?_
      | refine loopQ_ret ?_
      | refine loopQ_normal ?_
      | (refine Wc_region (id := 0) ?_; intro K hK; refine Wl_move (k := ?_); refine Wl_ptr_eq_nil (k' := ?_); (refine Wl_nil (hK _ _ ?_); clear hK K))
      | (refine Wc_region (id := 1) ?_; intro K hK; refine Wl_move (k := ?_); refine Wl_nilCheck (k := ?_); refine Wl_fieldAddr (k := ?_); refine Wl_load (k := ?_); refine Wl_len_sl (k' := ?_); refine Wl_move (k := ?_); (refine Wl_nil (hK _ _ ?_); clear hK K))
      | (refine Wc_region (id := 2) ?_; intro K hK; refine Wl_lss (k' := ?_); (refine Wl_nil (hK _ _ ?_); clear hK K))
      | (refine Wc_region (id := 3) ?_; intro K hK; refine Wl_move (k := ?_); refine Wl_index_sl (k' := ?_); refine Wl_loadR (k := ?_); (refine Wl_alloc (k := ?_); intro r); refine Wl_assign (k := ?_); refine Wl_storeR (ho' := rfl) (k := ?_); (refine Wl_nil (hK _ _ ?_); clear hK K))
      | (refine Wc_region (id := 4) ?_; intro K hK; refine Wl_assign (k := ?_); (refine Wl_nil (hK _ _ ?_); clear hK K))
      | (refine Wc_region (id := 5) ?_; intro K hK; refine Wl_move (k := ?_); refine Wl_move (k := ?_); refine Wl_len_sl (k' := ?_); refine Wl_lss (k' := ?_); (refine Wl_nil (hK _ _ ?_); clear hK K))
      | (refine Wc_region (id := 6) ?_; intro K hK; refine Wl_move (k := ?_); refine Wl_move (k := ?_); refine Wl_index_sl (k' := ?_); ((skip)) <;> (refine Wl_conv (k' := ?_); refine Wl_rem (k' := ?_); refine Wl_assign (k := ?_); (refine Wl_nil (hK _ _ ?_); clear hK K)))
      | (refine Wc_draw (id := 7) (h := ?_); intro K hK; refine Wl_move (k := ?_); refine Wl_nilCheck (k := ?_); refine Wl_fieldAddr (k := ?_); refine Wl_load (k := ?_); refine Wl_fieldAddr (k := ?_); refine Wl_load (k := ?_); refine Wl_index_sl (k' := ?_); refine Wl_move (k := ?_); refine Wl_slice_arr0 (k' := ?_); refine Wl_fieldAddr (k := ?_); refine Wl_move (k := ?_); refine Wl_slice_arr0 (k' := ?_))
      | (refine Wc_region (id := 8) ?_; intro K hK; refine Wl_add (k' := ?_); refine Wl_move (k := ?_); (refine Wl_nil (hK _ _ ?_); clear hK K))
      | (refine Wc_region (id := 9) ?_; intro K hK; refine Wl_move (k := ?_); refine Wl_move (k := ?_); refine Wl_move (k := ?_); refine Wl_nilCheck (k := ?_); refine Wl_fieldAddr (k := ?_); refine Wl_store (ho := rfl) (k := ?_); refine Wl_nilCheck (k := ?_); refine Wl_fieldAddr (k := ?_); refine Wl_store (ho := rfl) (k := ?_); refine Wl_nilCheck (k := ?_); refine Wl_fieldAddr (k := ?_); refine Wl_store (ho := rfl) (k := ?_); (refine Wl_nil (hK _ _ ?_); clear hK K))
      | (refine Wc_cond (ht := (fun ht => ?_)) (hf := (fun ht => ?_)) <;> (try simp at ht) <;> (try (exfalso; omega))))
    refine ⟨Or.inl rfl, _, _ :: A0, fold_disk (D := D.crash ch) (bk := bk) (pa := none) (pc := 0) ?_, res0 rfl, rfl, rfl⟩
    simp only [DiskL, Dk.crash, e5, crashF, List.zipIdx_nil, List.foldl_nil, List.length_nil]
    simp only [List.cons_append, List.nil_append]
    refine Ent.trans ?_ (Ent.perm (((List.perm_append_comm (l₁ := [own _ _ _ _ _ _]) (l₂ := [_, _]))).append_right A0))
    exact own_nil 65 104 _
  · intro rp spare e1 e2 e3
    subst e1
    refine Wc_loop (α := Nat) (fun k => [(0, .pointer (some ⟨p, 0, none⟩)), (1, .slice a m c), (12, .slice (some ⟨rp, 0, none⟩) D.pend.length pc), (13, .int .i64 D.pend.length), (14, .int .i64 k)])
      (fun k => cb rp (pcells D.pend ++ spare) 104 :: cb p [.slice (some ⟨bk, 0, none⟩) n n, .slice (some ⟨rp, 0, none⟩) D.pend.length pc,
        .int .i64 D.fuse, .bool D.down, .int .i64 D.steps] 77 :: cb bk ((crashF ch D.kept (D.pend.take k)).map byteV) 102 :: A0)
      (fun k => k ≤ D.pend.length) (fun k => D.pend.length - k) 0 (by omega) ⟨rfl, rfl, rfl, rfl, rfl, trivial⟩ (by (repeat (first | exact Ent.refl _ | exact Ent.nil | refine Ent.take (by (repeat (first | exact Out.head | apply Out.tail)); (first | done | fail)) ?_ | refine Ent.drop1 ?_))) ?_
    intro k G hk
    simp only [ov]
    by_cases hk2 : k < D.pend.length
    · obtain ⟨q, hq⟩ : ∃ q, D.pend[k]? = some q := ⟨_, List.getElem?_eq_getElem hk2⟩
      have hqm := h.pend q (List.mem_of_getElem? hq)
      have hq1 := hqm.1; have hq2 := hqm.2
      have hpl := pcells_length D.pend (fun x hx => (h.pend x hx).2)
      have hkl := crashF_length n ch D.kept h.len (D.pend.take k) (fun x hx => h.pend x (List.mem_of_mem_take hx))
      have hnl := nOf_le ch k
      have htk : (D.pend.take k).length = k := by simp; omega
      have hcp : setL ((crashF ch D.kept (D.pend.take k)).map byteV) (0 + (q.1 : Int).toNat * 64) (((q.2.map byteV).take (nOf ch k)).take (nOf ch k * 1)) = (crashF ch D.kept (D.pend.take (k + 1))).map byteV := by
        rw [take_snoc' hq, crashF_snoc, htk, Nat.mul_one, List.take_take, Nat.min_self]
        simpa using setL_crash _ q (nOf ch k) n hkl hq1 hq2 hnl
      by_cases hck : k < m
      · obtain ⟨cc, hcc⟩ : ∃ x, ch[k]? = some x := ⟨_, List.getElem?_eq_getElem (by omega)⟩
        have hno : nOf ch k = cc.toNat % 65 := by simp [nOf, hcc]
        have hc8 : cc.toNat < 256 := cc.toNat_lt
        have hm65 : ((cc.toNat : Int)).tmod 65 = ((nOf ch k : Nat) : Int) := by rw [hno, Int.tmod_eq_emod_of_nonneg (by omega)]; omega
        cases a with
        | none => have := hsrc.nil rfl; omega
        | some pa =>
          clear hno
          repeat' (first
            | refine Wc_seq ?_
            | refine thenQ_normal ?_
            | refine Wc_cond_t (h := ?_)
            | refine Wc_cond_f (h := ?_)
            | refine Wc_ret ?_
            | refine thenQ_ret ?_
            | refine Wc_block ?_
            | refine blkQ_normal ?_
            | refine blkQ_ret ?_
            | refine Wc_exit ?_
            | refine thenQ_exit ?_
            | refine blkQ_hit ?_
            | refine blkQ_miss rfl ?_
            | refine Wc_skip ?_
            | refine Wc_label ?_
            | refine loopQ_exit ?_
            | refine loopQ_ret ?_
            | refine loopQ_normal ?_
            | (refine Wc_region (id := 0) ?_; intro K hK; refine Wl_move (k := ?_); refine Wl_ptr_eq_nil (k' := ?_); (refine Wl_nil (hK _ _ ?_); clear hK K))
            | (refine Wc_region (id := 1) ?_; intro K hK; refine Wl_move (k := ?_); refine Wl_nilCheck (k := ?_); refine Wl_fieldAddr (k := ?_); refine Wl_load (k := ?_); refine Wl_len_sl (k' := ?_); refine Wl_move (k := ?_); (refine Wl_nil (hK _ _ ?_); clear hK K))
            | (refine Wc_region (id := 2) ?_; intro K hK; refine Wl_lss (k' := ?_); (refine Wl_nil (hK _ _ ?_); clear hK K))
            | (refine Wc_region (id := 3) ?_; intro K hK; refine Wl_move (k := ?_); refine Wl_index_sl (k' := ?_); ((refine Wl_loadAgg (cs := .int .i64 q.1 :: q.2.map byteV) (hv := (by simp [hpl]; omega)) (hc := (by simpa using pcells_get D.pend k q spare (fun x hx => (h.pend x hx).2) hq)) (k := ?_))) <;> (((refine Wl_alloc (k := ?_); intro r5)) <;> (refine Wl_assign (k := ?_); ((refine Wl_storeRow (hv := (cell_all _ _)) (hl := (by simp [hq2])) (ho := (by simp)) (hs := (setL_all _ _ (by simp [hq2]))) (ho' := rfl) (k := ?_))) <;> ((refine Wl_nil (hK _ _ ?_); clear hK K)))))
            | (refine Wc_region (id := 4) ?_; intro K hK; refine Wl_assign (k := ?_); (refine Wl_nil (hK _ _ ?_); clear hK K))
            | (refine Wc_region (id := 5) ?_; intro K hK; refine Wl_move (k := ?_); refine Wl_move (k := ?_); refine Wl_len_sl (k' := ?_); refine Wl_lss (k' := ?_); (refine Wl_nil (hK _ _ ?_); clear hK K))
            | (refine Wc_region (id := 6) ?_; intro K hK; refine Wl_move (k := ?_); refine Wl_move (k := ?_); ((refine Wl_index_any (k' := ?_))) <;> (((refine Wl_load_any (m := m) (c := c) (i := k) (v := byteV cc) (vs := ch.map byteV) (hr := (by repeat (first | exact hsrc | apply RdS.tail))) (hi := hck) (hv := (by simp [hcc])) (k := ?_))) <;> (refine Wl_conv (k' := ?_); ((refine Wl_rem (k' := ?_); rw [hm65])) <;> (refine Wl_assign (k := ?_); (refine Wl_nil (hK _ _ ?_); clear hK K)))))
            | (refine Wc_draw (id := 7) (h := ?_); intro K hK; refine Wl_move (k := ?_); refine Wl_nilCheck (k := ?_); refine Wl_fieldAddr (k := ?_); refine Wl_load (k := ?_); refine Wl_fieldAddr (k := ?_); refine Wl_load (k := ?_); refine Wl_index_sl (k' := ?_); refine Wl_move (k := ?_); refine Wl_slice_arr0 (k' := ?_); refine Wl_fieldAddr (k := ?_); refine Wl_move (k := ?_); refine Wl_slice_arr0 (k' := ?_); ((refine Wl_copy (m := nOf ch k) (n := nOf ch k) (vs := (q.2.map byteV).take (nOf ch k)) (hn := (by simp [Nat.min])) (hsrc := (src_sl (b := r5) (by (repeat (first | exact Rd.head | exact Rd.base (by assumption) | apply Rd.tail)); (first | done | fail)) (by simp [hq2]; omega) (by simp))) (hvl := (by simp [hq2]; omega)) (hvc := (byteV_take _ _)) (ho := (by simp [hkl]; omega)) (hst := hcp) (ho' := rfl) (k := ?_))) <;> ((refine Wl_nil (hK _ _ ?_); clear hK K)))
            | (refine Wc_region (id := 8) ?_; intro K hK; refine Wl_add (k' := ?_); refine Wl_move (k := ?_); (refine Wl_nil (hK _ _ ?_); clear hK K))
            | (refine Wc_region (id := 9) ?_; intro K hK; refine Wl_move (k := ?_); refine Wl_move (k := ?_); refine Wl_move (k := ?_); refine Wl_nilCheck (k := ?_); refine Wl_fieldAddr (k := ?_); refine Wl_store (ho := rfl) (k := ?_); refine Wl_nilCheck (k := ?_); refine Wl_fieldAddr (k := ?_); refine Wl_store (ho := rfl) (k := ?_); refine Wl_nilCheck (k := ?_); refine Wl_fieldAddr (k := ?_); refine Wl_store (ho := rfl) (k := ?_); (refine Wl_nil (hK _ _ ?_); clear hK K))
            | (refine Wc_cond (ht := (fun ht => ?_)) (hf := (fun ht => ?_)) <;> (try simp at ht) <;> (try (exfalso; omega))))
          refine ⟨k + 1, by omega, by omega, ⟨rfl, rfl, rfl, rfl, int_succ k, trivial⟩, ?_⟩
          (repeat (first | exact Ent.refl _ | exact Ent.nil | refine Ent.take (by (repeat (first | exact Out.head | apply Out.tail)); (first | done | fail)) ?_ | refine Ent.drop1 ?_))
      · have hno : nOf ch k = 0 := by simp [nOf, List.getElem?_eq_none (show ch.length ≤ k by omega)]
        rw [hno] at hcp
        clear hno
        repeat' (first
          | refine Wc_seq ?_
          | refine thenQ_normal ?_
          | refine Wc_cond_t (h := ?_)
          | refine Wc_cond_f (h := ?_)
          | refine Wc_ret ?_
          | refine thenQ_ret ?_
          | refine Wc_block ?_
          | refine blkQ_normal ?_
          | refine blkQ_ret ?_
          | refine Wc_exit ?_
          | refine thenQ_exit ?_
          | refine blkQ_hit ?_
          | refine blkQ_miss rfl ?_
          | refine Wc_skip ?_
          | refine Wc_label ?_
          | refine loopQ_exit ?_
          | refine loopQ_ret ?_
          | refine loopQ_normal ?_
          | (refine Wc_region (id := 0) ?_; intro K hK; refine Wl_move (k := ?_); refine Wl_ptr_eq_nil (k' := ?_); (refine Wl_nil (hK _ _ ?_); clear hK K))
          | (refine Wc_region (id := 1) ?_; intro K hK; refine Wl_move (k := ?_); refine Wl_nilCheck (k := ?_); refine Wl_fieldAddr (k := ?_); refine Wl_load (k := ?_); refine Wl_len_sl (k' := ?_); refine Wl_move (k := ?_); (refine Wl_nil (hK _ _ ?_); clear hK K))
          | (refine Wc_region (id := 2) ?_; intro K hK; refine Wl_lss (k' := ?_); (refine Wl_nil (hK _ _ ?_); clear hK K))
          | (refine Wc_region (id := 3) ?_; intro K hK; refine Wl_move (k := ?_); refine Wl_index_sl (k' := ?_); ((refine Wl_loadAgg (cs := .int .i64 q.1 :: q.2.map byteV) (hv := (by simp [hpl]; omega)) (hc := (by simpa using pcells_get D.pend k q spare (fun x hx => (h.pend x hx).2) hq)) (k := ?_))) <;> (((refine Wl_alloc (k := ?_); intro r5)) <;> (refine Wl_assign (k := ?_); ((refine Wl_storeRow (hv := (cell_all _ _)) (hl := (by simp [hq2])) (ho := (by simp)) (hs := (setL_all _ _ (by simp [hq2]))) (ho' := rfl) (k := ?_))) <;> ((refine Wl_nil (hK _ _ ?_); clear hK K)))))
          | (refine Wc_region (id := 4) ?_; intro K hK; refine Wl_assign (k := ?_); (refine Wl_nil (hK _ _ ?_); clear hK K))
          | (refine Wc_region (id := 5) ?_; intro K hK; refine Wl_move (k := ?_); refine Wl_move (k := ?_); refine Wl_len_sl (k' := ?_); refine Wl_lss (k' := ?_); (refine Wl_nil (hK _ _ ?_); clear hK K))
          | (refine Wc_region (id := 6) ?_; intro K hK; refine Wl_move (k := ?_); refine Wl_move (k := ?_); refine Wl_index_sl (k' := ?_); refine Wl_load (k := ?_); refine Wl_conv (k' := ?_); refine Wl_rem (k' := ?_); refine Wl_assign (k := ?_); (refine Wl_nil (hK _ _ ?_); clear hK K))
          | (refine Wc_draw (id := 7) (h := ?_); intro K hK; refine Wl_move (k := ?_); refine Wl_nilCheck (k := ?_); refine Wl_fieldAddr (k := ?_); refine Wl_load (k := ?_); refine Wl_fieldAddr (k := ?_); refine Wl_load (k := ?_); refine Wl_index_sl (k' := ?_); refine Wl_move (k := ?_); ((refine Wl_slice_arr0 (h := 0) (k' := ?_))) <;> (refine Wl_fieldAddr (k := ?_); refine Wl_move (k := ?_); ((refine Wl_slice_arr0 (h := 0) (k' := ?_))) <;> (((refine Wl_copy (m := 0) (n := 0) (vs := (q.2.map byteV).take 0) (hn := (by rfl)) (hsrc := (src_sl (b := r5) (by (repeat (first | exact Rd.head | exact Rd.base (by assumption) | apply Rd.tail)); (first | done | fail)) (by simp) (by simp))) (hvl := (by simp)) (hvc := (byteV_take _ _)) (ho := (by simp [hkl]; omega)) (hst := hcp) (ho' := rfl) (k := ?_))) <;> ((refine Wl_nil (hK _ _ ?_); clear hK K)))))
          | (refine Wc_region (id := 8) ?_; intro K hK; refine Wl_add (k' := ?_); refine Wl_move (k := ?_); (refine Wl_nil (hK _ _ ?_); clear hK K))
          | (refine Wc_region (id := 9) ?_; intro K hK; refine Wl_move (k := ?_); refine Wl_move (k := ?_); refine Wl_move (k := ?_); refine Wl_nilCheck (k := ?_); refine Wl_fieldAddr (k := ?_); refine Wl_store (ho := rfl) (k := ?_); refine Wl_nilCheck (k := ?_); refine Wl_fieldAddr (k := ?_); refine Wl_store (ho := rfl) (k := ?_); refine Wl_nilCheck (k := ?_); refine Wl_fieldAddr (k := ?_); refine Wl_store (ho := rfl) (k := ?_); (refine Wl_nil (hK _ _ ?_); clear hK K))
          | (refine Wc_cond (ht := (fun ht => ?_)) (hf := (fun ht => ?_)) <;> (try simp at ht) <;> (try (exfalso; omega))))
        refine ⟨k + 1, by omega, by omega, ⟨rfl, rfl, rfl, rfl, int_succ k, trivial⟩, ?_⟩
        (repeat (first | exact Ent.refl _ | exact Ent.nil | refine Ent.take (by (repeat (first | exact Out.head | apply Out.tail)); (first | done | fail)) ?_ | refine Ent.drop1 ?_))
    · have hk3 : k = D.pend.length := by omega
      subst hk3
      repeat' (first
        | refine Wc_seq ?_
        | refine thenQ_normal ?_
        | refine Wc_cond_t (h := ?_)
        | refine Wc_cond_f (h := ?_)
        | refine Wc_ret ?_
        | refine thenQ_ret ?_
        | refine Wc_block ?_
        | refine blkQ_normal ?_
        | refine blkQ_ret ?_
        | refine Wc_exit ?_
        | refine thenQ_exit ?_
        | refine blkQ_hit ?_
        | refine blkQ_miss rfl ?_
        | refine Wc_skip ?_
        | refine Wc_label ?_
        | refine loopQ_exit ?_
        | refine loopQ_ret ?_
        | refine loopQ_normal ?_
        | (refine Wc_region (id := 0) ?_; intro K hK; refine Wl_move (k := ?_); refine Wl_ptr_eq_nil (k' := ?_); (refine Wl_nil (hK _ _ ?_); clear hK K))
        | (refine Wc_region (id := 1) ?_; intro K hK; refine Wl_move (k := ?_); refine Wl_nilCheck (k := ?_); refine Wl_fieldAddr (k := ?_); refine Wl_load (k := ?_); refine Wl_len_sl (k' := ?_); refine Wl_move (k := ?_); (refine Wl_nil (hK _ _ ?_); clear hK K))
        | (refine Wc_region (id := 2) ?_; intro K hK; refine Wl_lss (k' := ?_); (refine Wl_nil (hK _ _ ?_); clear hK K))
        | (refine Wc_region (id := 3) ?_; intro K hK; refine Wl_move (k := ?_); ((skip)) <;> (refine Wl_loadR (k := ?_); (refine Wl_alloc (k := ?_); intro r); refine Wl_assign (k := ?_); refine Wl_storeR (ho' := rfl) (k := ?_); (refine Wl_nil (hK _ _ ?_); clear hK K)))
        | (refine Wc_region (id := 4) ?_; intro K hK; refine Wl_assign (k := ?_); (refine Wl_nil (hK _ _ ?_); clear hK K))
        | (refine Wc_region (id := 5) ?_; intro K hK; refine Wl_move (k := ?_); refine Wl_move (k := ?_); refine Wl_len_sl (k' := ?_); refine Wl_lss (k' := ?_); (refine Wl_nil (hK _ _ ?_); clear hK K))
        | (refine Wc_region (id := 6) ?_; intro K hK; refine Wl_move (k := ?_); refine Wl_move (k := ?_); refine Wl_index_sl (k' := ?_); refine Wl_load (k := ?_); refine Wl_conv (k' := ?_); refine Wl_rem (k' := ?_); refine Wl_assign (k := ?_); (refine Wl_nil (hK _ _ ?_); clear hK K))
        | (refine Wc_draw (id := 7) (h := ?_); intro K hK; refine Wl_move (k := ?_); refine Wl_nilCheck (k := ?_); refine Wl_fieldAddr (k := ?_); refine Wl_load (k := ?_); refine Wl_fieldAddr (k := ?_); refine Wl_load (k := ?_); refine Wl_index_sl (k' := ?_); refine Wl_move (k := ?_); refine Wl_slice_arr0 (k' := ?_); refine Wl_fieldAddr (k := ?_); refine Wl_move (k := ?_); refine Wl_slice_arr0 (k' := ?_))
        | (refine Wc_region (id := 8) ?_; intro K hK; refine Wl_add (k' := ?_); refine Wl_move (k := ?_); (refine Wl_nil (hK _ _ ?_); clear hK K))
        | (refine Wc_region (id := 9) ?_; intro K hK; refine Wl_move (k := ?_); refine Wl_move (k := ?_); refine Wl_move (k := ?_); refine Wl_nilCheck (k := ?_); refine Wl_fieldAddr (k := ?_); refine Wl_store (ho := rfl) (k := ?_); refine Wl_nilCheck (k := ?_); refine Wl_fieldAddr (k := ?_); refine Wl_store (ho := rfl) (k := ?_); refine Wl_nilCheck (k := ?_); refine Wl_fieldAddr (k := ?_); refine Wl_store (ho := rfl) (k := ?_); (refine Wl_nil (hK _ _ ?_); clear hK K))
        | (refine Wc_cond (ht := (fun ht => ?_)) (hf := (fun ht => ?_)) <;> (try simp at ht) <;> (try (exfalso; omega))))
      refine ⟨Or.inl rfl, _, _ :: A0, fold_disk (D := D.crash ch) (bk := bk) (pa := none) (pc := 0) ?_, res0 rfl, rfl, rfl⟩
      simp only [DiskL, Dk.crash, List.length_nil, List.take_length]
      simp only [List.cons_append, List.nil_append]
      refine Ent.trans ?_ (Ent.perm (((List.perm_append_comm (l₁ := [own _ _ _ _ _ _]) (l₂ := [_, _]))).append_right A0))
      refine Ent.trans ?_ (own_nil 65 104 _)
      (repeat (first | exact Ent.refl _ | exact Ent.nil | refine Ent.take (by (repeat (first | exact Out.head | apply Out.tail)); (first | done | fail)) ?_ | refine Ent.drop1 ?_))
theorem len_ok (p n : Nat) (D : Dk) :
    Fspec Try.prog B 28 #[.pointer (some ⟨p, 0, none⟩)] [DiskP p n D] (fun v A' => v = .int .i64 n ∧ A' = [DiskP p n D]) := by
  refine spec_of (args := [_]) Try.func28 rfl rfl rfl ?_
  refine Wc_exN (fun x => ?_)
  obtain ⟨bk, pa, pc⟩ := x
  simp only [DiskL]
  simp only [List.cons_append, List.nil_append]
  repeat' (first
    | refine Wc_seq ?_
    | refine thenQ_normal ?_
    | refine Wc_cond_t (h := ?_)
    | refine Wc_cond_f (h := ?_)
    | refine Wc_ret ?_
    | refine thenQ_ret ?_
    | refine Wc_block ?_
    | refine blkQ_normal ?_
    | refine blkQ_ret ?_
    | refine Wc_exit ?_
    | refine thenQ_exit ?_
    | refine blkQ_hit ?_
    | refine blkQ_miss rfl ?_
    | refine Wc_skip ?_
    | refine Wc_label ?_
    | refine loopQ_exit ?_
    | refine loopQ_ret ?_
    | refine loopQ_normal ?_
    | (refine Wc_region (id := 0) ?_; intro K hK; refine Wl_assign (k := ?_); (refine Wl_nil (hK _ _ ?_); clear hK K))
    | (refine Wc_region (id := 1) ?_; intro K hK; refine Wl_move (k := ?_); refine Wl_ptr_eq_nil (k' := ?_); (refine Wl_nil (hK _ _ ?_); clear hK K))
    | (refine Wc_region (id := 2) ?_; intro K hK; refine Wl_assign (k := ?_); (refine Wl_nil (hK _ _ ?_); clear hK K))
    | (refine Wc_region (id := 3) ?_; intro K hK; refine Wl_move (k := ?_); refine Wl_nilCheck (k := ?_); refine Wl_fieldAddr (k := ?_); refine Wl_load (k := ?_); refine Wl_len_sl (k' := ?_); refine Wl_assign (k := ?_); (refine Wl_nil (hK _ _ ?_); clear hK K))
    | (refine Wc_cond (ht := (fun ht => ?_)) (hf := (fun ht => ?_)) <;> (try simp at ht) <;> (try (exfalso; omega))))
  exact ⟨Or.inr rfl, _, [_], fold_disk (A0 := []) (Ent.refl _), res1 rfl rfl, rfl, rfl⟩
theorem down_ok (p n : Nat) (D : Dk) :
    Fspec Try.prog B 29 #[.pointer (some ⟨p, 0, none⟩)] [DiskP p n D] (fun v A' => v = .bool D.down ∧ A' = [DiskP p n D]) := by
  refine spec_of (args := [_]) Try.func29 rfl rfl rfl ?_
  refine Wc_exN (fun x => ?_)
  obtain ⟨bk, pa, pc⟩ := x
  simp only [DiskL]
  simp only [List.cons_append, List.nil_append]
  repeat' (first
    | refine Wc_seq ?_
    | refine thenQ_normal ?_
    | refine Wc_cond_t (h := ?_)
    | refine Wc_cond_f (h := ?_)
    | refine Wc_ret ?_
    | refine thenQ_ret ?_
    | refine Wc_block ?_
    | refine blkQ_normal ?_
    | refine blkQ_ret ?_
    | refine Wc_exit ?_
    | refine thenQ_exit ?_
    | refine blkQ_hit ?_
    | refine blkQ_miss rfl ?_
    | refine Wc_skip ?_
    | refine Wc_label ?_
    | refine loopQ_exit ?_
    | refine loopQ_ret ?_
    | refine loopQ_normal ?_
    | (refine Wc_region (id := 0) ?_; intro K hK; refine Wl_assign (k := ?_); (refine Wl_nil (hK _ _ ?_); clear hK K))
    | (refine Wc_region (id := 1) ?_; intro K hK; refine Wl_move (k := ?_); refine Wl_ptr_eq_nil (k' := ?_); refine Wl_move (k := ?_); ((first | (refine Wl_guard (k := ?_); refine Wl_move (k := ?_)) | refine Wl_gno (k := ?_) | ((refine Wl_split (yes := (fun ht => ?_)) (no := (fun ht => ?_)) <;> (try simp at ht) <;> (try (exfalso; omega))) <;> (first | (refine Wl_guard (k := ?_); refine Wl_move (k := ?_)) | refine Wl_gno (k := ?_))))) <;> (((first | (refine Wl_guard (k := ?_); refine Wl_nilCheck (k := ?_)) | refine Wl_gno (k := ?_) | ((refine Wl_split (yes := (fun ht => ?_)) (no := (fun ht => ?_)) <;> (try simp at ht) <;> (try (exfalso; omega))) <;> (first | (refine Wl_guard (k := ?_); refine Wl_nilCheck (k := ?_)) | refine Wl_gno (k := ?_))))) <;> (((first | (refine Wl_guard (k := ?_); refine Wl_fieldAddr (k := ?_)) | refine Wl_gno (k := ?_) | ((refine Wl_split (yes := (fun ht => ?_)) (no := (fun ht => ?_)) <;> (try simp at ht) <;> (try (exfalso; omega))) <;> (first | (refine Wl_guard (k := ?_); refine Wl_fieldAddr (k := ?_)) | refine Wl_gno (k := ?_))))) <;> (((first | (refine Wl_guard (k := ?_); refine Wl_load (k := ?_)) | refine Wl_gno (k := ?_) | ((refine Wl_split (yes := (fun ht => ?_)) (no := (fun ht => ?_)) <;> (try simp at ht) <;> (try (exfalso; omega))) <;> (first | (refine Wl_guard (k := ?_); refine Wl_load (k := ?_)) | refine Wl_gno (k := ?_))))) <;> ((first | refine Wl_pick_t (k := ?_) | refine Wl_pick_f (k := ?_) | refine Wl_pick (k := ?_)); refine Wl_assign (k := ?_); (refine Wl_nil (hK _ _ ?_); clear hK K))))))
    | (refine Wc_cond (ht := (fun ht => ?_)) (hf := (fun ht => ?_)) <;> (try simp at ht) <;> (try (exfalso; omega))))
  all_goals exact ⟨Or.inr rfl, _, [_], fold_disk (A0 := []) (Ent.refl _), res1 rfl rfl, rfl, rfl⟩
end specs
end Go.Proofs.Ytepeljbgekgjcaa
/- Plain lists for layer 12: sectors of a row of bytes. No Go in sight. -/
set_option maxHeartbeats 8000000
set_option linter.unusedVariables false
set_option linter.unusedSimpArgs false
set_option maxRecDepth 100000
namespace Go.Proofs.Ytepeljbgekgjcaa
open Go Go.Sl
attribute [local irreducible] Go.Sl.Wl Go.Sl.Wc Go.Sl.thenQ Go.Sl.blkQ Go.Sl.loopQ Go.Sl.Fspec

def sec (K : List UInt8) (i : Nat) : List UInt8 := (K.drop (64 * i)).take 64
theorem sec_get (K : List UInt8) (i j : Nat) : (sec K i)[j]? = if j < 64 then K[64 * i + j]? else none := by
  simp [sec, List.getElem?_take, List.getElem?_drop]
theorem crash1_get (K : List UInt8) (q : Nat × List UInt8) (m j : Nat) (hK : 64 * q.1 + 64 ≤ K.length) (hq : q.2.length = 64) (hm : m ≤ 64) :
    (crash1 K q m)[j]? = if 64 * q.1 ≤ j ∧ j < 64 * q.1 + m then q.2[j - 64 * q.1]? else K[j]? := by
  have hl : (K.take (64 * q.1)).length = 64 * q.1 := by simp; omega
  have hl2 : (q.2.take m).length = m := by simp; omega
  unfold crash1
  by_cases h1 : j < 64 * q.1
  · rw [List.getElem?_append_left (by omega), if_neg (by omega), List.getElem?_take, if_pos h1]
  · rw [List.getElem?_append_right (by omega), hl]
    by_cases h2 : j < 64 * q.1 + m
    · rw [List.getElem?_append_left (by omega), if_pos ⟨by omega, h2⟩, List.getElem?_take, if_pos (by omega)]
    · rw [List.getElem?_append_right (by omega), hl2, if_neg (by omega), List.getElem?_drop]
      congr 1; omega
theorem putK_eq (K : List UInt8) (q : Nat × List UInt8) (hq : q.2.length = 64) : putK K q = crash1 K q 64 := by
  unfold putK crash1
  rw [List.take_of_length_le (by omega : q.2.length ≤ 64)]
theorem sec_crash1 (K : List UInt8) (i : Nat) (b : List UInt8) (m : Nat) (hK : 64 * i + 64 ≤ K.length) (hb : b.length = 64) (hm : m ≤ 64) : sec (crash1 K (i, b) m) i = b.take m ++ (sec K i).drop m := by
  apply List.ext_getElem?
  intro j
  rw [sec_get, crash1_get K (i, b) m _ hK hb hm]
  by_cases hj : j < m
  · rw [if_pos (by omega), if_pos ⟨by simp only; omega, by simp only; omega⟩, List.getElem?_append_left (by simp; omega), List.getElem?_take, if_pos hj]
    congr 1; simp only; omega
  · rw [List.getElem?_append_right (by simp; omega), List.getElem?_drop, sec_get]
    have : (b.take m).length = m := by simp; omega
    rw [this]
    by_cases h64 : j < 64
    · rw [if_pos h64, if_neg (by simp only; omega), if_pos (by omega)]; congr 1; omega
    · rw [if_neg h64, if_neg (by omega)]
theorem sec_crash1_ne (K : List UInt8) (i k : Nat) (b : List UInt8) (m : Nat) (hK : 64 * i + 64 ≤ K.length) (hb : b.length = 64) (hm : m ≤ 64) (hne : k ≠ i) : sec (crash1 K (i, b) m) k = sec K k := by
  apply List.ext_getElem?
  intro j
  rw [sec_get, sec_get, crash1_get K (i, b) m _ hK hb hm]
  by_cases hj : j < 64
  · rw [if_pos hj, if_pos hj, if_neg (by simp only; omega)]
  · rw [if_neg hj, if_neg hj]
theorem sec_put (K : List UInt8) (i : Nat) (b : List UInt8) (hK : 64 * i + 64 ≤ K.length) (hb : b.length = 64) : sec (putK K (i, b)) i = b := by
  rw [putK_eq _ _ hb, sec_crash1 K i b 64 hK hb (by omega), List.take_of_length_le (by omega)]
  have : (sec K i).length ≤ 64 := by simp [sec]; omega
  rw [List.drop_eq_nil_of_le this]; simp
theorem sec_put_ne (K : List UInt8) (i k : Nat) (b : List UInt8) (hK : 64 * i + 64 ≤ K.length) (hb : b.length = 64) (hne : k ≠ i) : sec (putK K (i, b)) k = sec K k := by
  rw [putK_eq _ _ hb, sec_crash1_ne K i k b 64 hK hb (by omega) hne]

theorem bytes_toList (l : List UInt8) : (bytesOf l).toList = l := by
  rw [ByteArray.toList_eq]; simp [bytesOf]
end Go.Proofs.Ytepeljbgekgjcaa
/- Numbers as package pack writes them, the plain law. No condition. -/
set_option maxHeartbeats 8000000
set_option linter.unusedVariables false
set_option linter.unusedSimpArgs false
set_option maxRecDepth 100000
namespace Go.Proofs.Ytepeljbgekgjcaa
open Go Go.Sl
attribute [local irreducible] Go.Sl.Wl Go.Sl.Wc Go.Sl.thenQ Go.Sl.blkQ Go.Sl.loopQ Go.Sl.Fspec

/-- A number, seven bits a byte, the lowest first. -/
def encN (n : Nat) : List UInt8 := if n < 128 then [UInt8.ofNat n] else UInt8.ofNat (n % 128 + 128) :: encN (n / 128)
termination_by n
decreasing_by omega
theorem encN_small {n : Nat} (h : n < 128) : encN n = [UInt8.ofNat n] := by rw [encN, if_pos h]
theorem encN_big {n : Nat} (h : 128 ≤ n) : encN n = UInt8.ofNat (n % 128 + 128) :: encN (n / 128) := by rw [encN, if_neg (by omega)]
theorem encN_len2 {n : Nat} (h : n < 16384) : (encN n).length ≤ 2 := by
  by_cases h1 : n < 128
  · rw [encN_small h1]; simp
  · rw [encN_big (by omega), encN_small (by omega)]; simp
theorem encN_pos (n : Nat) : 0 < (encN n).length := by
  by_cases h1 : n < 128
  · rw [encN_small h1]; simp
  · rw [encN_big (by omega)]; simp
structure Ep where
  master : Int
  cut : Int
  forced : Bool
def encE (e : Ep) : List UInt8 := encN e.master.toNat ++ (encN e.cut.toNat ++ encN (if e.forced then 1 else 0))
/-- What lasts of a controller, as a record. -/
def encK (t : List Ep) (kind target : Int) : List UInt8 := encN t.length ++ (t.flatMap encE ++ (encN kind.toNat ++ encN target.toNat))
theorem encE_len {e : Ep} (h1 : e.master.toNat < 16384) (h2 : e.cut.toNat < 16384) : (encE e).length ≤ 6 := by
  have := encN_len2 h1; have := encN_len2 h2
  have h3 : (if e.forced then 1 else 0) < 16384 := by split <;> omega
  have := encN_len2 h3
  simp only [encE, List.length_append]; omega
theorem encT_len : ∀ {t : List Ep}, (∀ e ∈ t, e.master.toNat < 16384 ∧ e.cut.toNat < 16384) → (t.flatMap encE).length ≤ 6 * t.length
  | [], _ => by simp
  | e :: t, h => by
    have h1 := encE_len (h e (List.mem_cons_self ..)).1 (h e (List.mem_cons_self ..)).2
    have h2 := encT_len (t := t) fun x hx => h x (List.mem_cons_of_mem _ hx)
    rw [List.flatMap_cons, List.length_append, List.length_cons]; omega
theorem encK_len {t : List Ep} {kind target : Int} (h : ∀ e ∈ t, e.master.toNat < 16384 ∧ e.cut.toNat < 16384) (hl : t.length ≤ 100) (hk : kind.toNat < 16384) (ht : target.toNat < 16384) : (encK t kind target).length ≤ 606 := by
  have h1 := encT_len h
  have := encN_len2 hk; have := encN_len2 ht; have := encN_len2 (show t.length < 16384 by omega)
  simp only [encK, List.length_append]; omega
end Go.Proofs.Ytepeljbgekgjcaa
/- Numbers as bytes, the highest first. No condition. -/
set_option maxHeartbeats 8000000
set_option linter.unusedVariables false
set_option linter.unusedSimpArgs false
set_option maxRecDepth 100000
namespace Go.Proofs.Ytepeljbgekgjcaa
open Go Go.Sl
attribute [local irreducible] Go.Sl.Wl Go.Sl.Wc Go.Sl.thenQ Go.Sl.blkQ Go.Sl.loopQ Go.Sl.Fspec

def num4 (l : List UInt8) : Nat := 16777216 * (l.getD 0 0).toNat + 65536 * (l.getD 1 0).toNat + 256 * (l.getD 2 0).toNat + (l.getD 3 0).toNat
def be (n k : Nat) : UInt8 := UInt8.ofNat (n / 256 ^ k)
def be4 (n : Nat) : List UInt8 := [be n 3, be n 2, be n 1, be n 0]
def be2 (n : Nat) : List UInt8 := [be n 1, be n 0]
theorem u8_lt (b : UInt8) : b.toNat < 256 := b.toNat_lt
theorem be_toNat (n k : Nat) : (be n k).toNat = n / 256 ^ k % 256 := by simp [be, UInt8.toNat_ofNat']
theorem or_disj (a b i : Nat) (hb : b < 2 ^ i) (hs : a * 2 ^ i + b < 9223372036854775808) : bitV .or .i64 ((a * 2 ^ i : Nat) : Int) (b : Int) = ((a * 2 ^ i + b : Nat) : Int) := by
  have h1 : (BitVec.ofInt 64 ((a * 2 ^ i : Nat) : Int) ||| BitVec.ofInt 64 (b : Int)).toNat = a * 2 ^ i + b := by
    rw [BitVec.toNat_or, BitVec.ofInt_natCast, BitVec.ofInt_natCast, BitVec.toNat_ofNat, BitVec.toNat_ofNat, Nat.mod_eq_of_lt (by omega), Nat.mod_eq_of_lt (by omega)]
    have := Nat.shiftLeft_add_eq_or_of_lt (a := a) (b := b) (i := i) hb
    rw [Nat.shiftLeft_eq] at this
    exact this.symm
  unfold bitV
  show IntKind.i64.wrap ((BitVec.ofInt 64 ((a * 2 ^ i : Nat) : Int) ||| BitVec.ofInt 64 (b : Int)).toNat : Int) = _
  rw [h1]
  exact IntWalk.i64_in _ (by omega)
theorem shl_nat (a k : Nat) (hk : k ≤ 64) (hs : a * 2 ^ k < 9223372036854775808) : IntKind.i64.wrap ((a : Int) * 2 ^ (min ((k : Int).toNat) IntKind.i64.bits)) = ((a * 2 ^ k : Nat) : Int) := by
  have e : min ((k : Int).toNat) IntKind.i64.bits = k := by
    have : IntKind.i64.bits = 64 := rfl
    rw [this, Int.toNat_natCast]; omega
  rw [e]
  have : (a : Int) * 2 ^ k = ((a * 2 ^ k : Nat) : Int) := by push_cast; rfl
  rw [this]
  exact IntWalk.i64_in _ (by omega)
theorem num4_or (b0 b1 b2 b3 : UInt8) (r : List UInt8) :
    bitV .or .i64 (bitV .or .i64 (bitV .or .i64 (IntKind.i64.wrap ((b0.toNat : Int) * 2 ^ (min ((24 : Int).toNat) IntKind.i64.bits))) (IntKind.i64.wrap ((b1.toNat : Int) * 2 ^ (min ((16 : Int).toNat) IntKind.i64.bits))))
      (IntKind.i64.wrap ((b2.toNat : Int) * 2 ^ (min ((8 : Int).toNat) IntKind.i64.bits)))) (b3.toNat : Int) = (num4 (b0 :: b1 :: b2 :: b3 :: r) : Int) := by
  have h0 := u8_lt b0; have h1 := u8_lt b1; have h2 := u8_lt b2; have h3 := u8_lt b3
  rw [show (24 : Int) = ((24 : Nat) : Int) from rfl, show (16 : Int) = ((16 : Nat) : Int) from rfl, show (8 : Int) = ((8 : Nat) : Int) from rfl]
  rw [shl_nat _ 24 (by omega) (by omega), shl_nat _ 16 (by omega) (by omega), shl_nat _ 8 (by omega) (by omega)]
  rw [or_disj _ (b1.toNat * 2 ^ 16) 24 (by omega) (by omega)]
  rw [show b0.toNat * 2 ^ 24 + b1.toNat * 2 ^ 16 = (b0.toNat * 256 + b1.toNat) * 2 ^ 16 by omega, or_disj _ (b2.toNat * 2 ^ 8) 16 (by omega) (by omega)]
  rw [show (b0.toNat * 256 + b1.toNat) * 2 ^ 16 + b2.toNat * 2 ^ 8 = ((b0.toNat * 256 + b1.toNat) * 256 + b2.toNat) * 2 ^ 8 by omega, or_disj _ b3.toNat 8 (by omega) (by omega)]
  simp [num4]; omega
theorem num4_be4 (n : Nat) (h : n < 4294967296) (r : List UInt8) : num4 (be4 n ++ r) = n := by
  simp only [num4, be4, List.cons_append, List.getD_cons_zero, List.getD_cons_succ, be_toNat]
  omega
theorem byte_fdiv (n k : Nat) : IntKind.u8.wrap ((n : Int).fdiv (((256 ^ k : Nat) : Int))) = ((be n k).toNat : Int) := by
  rw [IntKind.wrap_u8, be_toNat, Int.fdiv_eq_ediv_of_nonneg _ (Int.natCast_nonneg _)]
  push_cast; rfl
theorem shr_be (n i : Nat) (hi : i < 4) : IntKind.u8.wrap (((n : Nat) : Int).fdiv (2 ^ (min ((24 - 8 * (i : Int))).toNat IntKind.i64.bits))) = ((be n (3 - i)).toNat : Int) := by
  have e : (2 : Int) ^ (min ((24 - 8 * (i : Int))).toNat IntKind.i64.bits) = ((256 ^ (3 - i) : Nat) : Int) := by
    have : i = 0 ∨ i = 1 ∨ i = 2 ∨ i = 3 := by omega
    rcases this with rfl | rfl | rfl | rfl <;> decide
  rw [e]; exact byte_fdiv n _
theorem shr8_be (n : Nat) : IntKind.u8.wrap (((n : Nat) : Int).fdiv (2 ^ (min ((8 : Int)).toNat IntKind.i64.bits))) = ((be n 1).toNat : Int) := by
  have e : (2 : Int) ^ (min ((8 : Int)).toNat IntKind.i64.bits) = ((256 ^ 1 : Nat) : Int) := by decide
  rw [e]; exact byte_fdiv n _
theorem be0 (n : Nat) : IntKind.u8.wrap (n : Int) = ((be n 0).toNat : Int) := by
  rw [IntKind.wrap_u8, be_toNat]; simp
/-- How many parts a record has. -/
def partsN (n : Nat) : Nat := (n - 1) / 47 + 1
theorem quo47 (n : Nat) (h : n ≤ 9223372036854775807) : IntKind.i64.wrap (((n : Int) - 1).tdiv 47) = (((n - 1) / 47 : Nat) : Int) := by
  cases n with
  | zero => decide
  | succ n =>
    rw [show ((n + 1 : Nat) : Int) - 1 = (n : Int) by omega, Int.tdiv_eq_ediv_of_nonneg (by omega)]
    exact (fits_i64 (by omega)).trans (by simp)
/-- The sector of a part. -/
def secL (lap number part of : Nat) (b : List UInt8) : List UInt8 :=
  be4 lap ++ (be4 number ++ (be2 part ++ (be2 of ++ (be b.length 0 :: (b ++ (List.replicate (47 - b.length) 0 ++ be4 lap))))))
theorem secL_length (lap number part of : Nat) (b : List UInt8) (h : b.length ≤ 47) : (secL lap number part of b).length = 64 := by
  simp [secL, be4, be2]; omega
def secI (lap number : Nat) : Nat → List UInt8
  | 0 => List.replicate 64 0
  | i + 1 => (((secI lap number i).set i (be lap (3 - i))).set (60 + i) (be lap (3 - i))).set (4 + i) (be number (3 - i))
theorem secI_length (lap number : Nat) : ∀ i, (secI lap number i).length = 64
  | 0 => by simp [secI]
  | i + 1 => by simp [secI, secI_length lap number i]
def secH (lap number part of n : Nat) : List UInt8 :=
  (((((secI lap number 4).set 8 (be part 1)).set 9 (be part 0)).set 10 (be of 1)).set 11 (be of 0)).set 12 (be n 0)
theorem secH_eq (lap number part of n : Nat) : secH lap number part of n = be4 lap ++ (be4 number ++ (be2 part ++ (be2 of ++ (be n 0 :: (List.replicate 47 0 ++ be4 lap))))) := rfl
theorem secH_copy (lap number part of : Nat) (b : List UInt8) (h : b.length ≤ 47) : (secH lap number part of b.length).take 13 ++ (b ++ (secH lap number part of b.length).drop (13 + b.length)) = secL lap number part of b := by
  rw [secH_eq]
  have e1 : (be4 lap ++ (be4 number ++ (be2 part ++ (be2 of ++ (be b.length 0 :: (List.replicate 47 (0 : UInt8) ++ be4 lap)))))) = (be4 lap ++ (be4 number ++ (be2 part ++ (be2 of ++ [be b.length 0])))) ++ (List.replicate 47 (0 : UInt8) ++ be4 lap) := by simp
  have hl : (be4 lap ++ (be4 number ++ (be2 part ++ (be2 of ++ [be b.length 0])))).length = 13 := rfl
  rw [e1, ← hl, List.take_left, ← List.drop_drop, List.drop_left, List.drop_append_of_le_length (by simp; omega), List.drop_replicate]
  simp [secL]
theorem sat_map {L : List UInt8} {off j : Nat} {b : UInt8} (h : off = j) (hl : j < L.length) : SetAt (L.map byteV) off (.int .u8 (b.toNat : Int)) ((L.set j b).map byteV) := by
  subst h
  rw [List.map_set]
  exact SetAt.gen (by simpa using hl)
end Go.Proofs.Ytepeljbgekgjcaa
