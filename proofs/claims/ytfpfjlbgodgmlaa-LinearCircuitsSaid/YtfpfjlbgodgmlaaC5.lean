/- Part 5 of what the proof stands on: an interpreter over an ideal memory that is proved sound, steps over it, and contracts of the functions that are called. No condition: no law is claimed here. -/
import Derived.Test.YtfpfjlbgodgmlaaC4
import Derived.KernelRfl
import Derived.Test.YtfpfjlbgodgmlaaProg
-- R9Ty
set_option linter.unusedSimpArgs false
set_option linter.unusedVariables false
namespace Go.Ideal
open Go Go.Proofs
instance : SizeIs Try.prog 1 1 := ⟨by kernel_rfl⟩
instance : AggIs Try.prog 1 false := ⟨by kernel_rfl⟩
instance : ZeroIs Try.prog 1 (Value.nilFunc) := ⟨by kernel_rfl⟩
instance : BytesIs Try.prog 1 1 8 := ⟨Try.t1, _, by kernel_rfl, rfl, rfl, rfl, rfl, by decide, by decide⟩
instance : UnderIs Try.prog 2 (.int IntKind.i64) := ⟨Try.underlying2⟩
instance : SizeIs Try.prog 2 1 := ⟨by kernel_rfl⟩
instance : AggIs Try.prog 2 false := ⟨by kernel_rfl⟩
instance : ZeroIs Try.prog 2 ((Value.int IntKind.i64 0)) := ⟨by kernel_rfl⟩
instance : BytesIs Try.prog 2 1 8 := ⟨Try.t2, _, by kernel_rfl, rfl, rfl, rfl, rfl, by decide, by decide⟩
instance : UnderIs Try.prog 3 (.int IntKind.i64) := ⟨Try.underlying3⟩
instance : SizeIs Try.prog 3 1 := ⟨by kernel_rfl⟩
instance : AggIs Try.prog 3 false := ⟨by kernel_rfl⟩
instance : ZeroIs Try.prog 3 ((Value.int IntKind.i64 0)) := ⟨by kernel_rfl⟩
instance : BytesIs Try.prog 3 1 8 := ⟨Try.t3, _, by kernel_rfl, rfl, rfl, rfl, rfl, by decide, by decide⟩
instance : UnderIs Try.prog 4 (.bool) := ⟨Try.underlying4⟩
instance : SizeIs Try.prog 4 1 := ⟨by kernel_rfl⟩
instance : AggIs Try.prog 4 false := ⟨by kernel_rfl⟩
instance : ZeroIs Try.prog 4 ((Value.bool false)) := ⟨by kernel_rfl⟩
instance : BytesIs Try.prog 4 1 1 := ⟨Try.t4, _, by kernel_rfl, rfl, rfl, rfl, rfl, by decide, by decide⟩
instance : UnderIs Try.prog 5 (.int IntKind.u8) := ⟨Try.underlying5⟩
instance : SizeIs Try.prog 5 1 := ⟨by kernel_rfl⟩
instance : AggIs Try.prog 5 false := ⟨by kernel_rfl⟩
instance : ZeroIs Try.prog 5 ((Value.int IntKind.u8 0)) := ⟨by kernel_rfl⟩
instance : BytesIs Try.prog 5 1 1 := ⟨Try.t5, _, by kernel_rfl, rfl, rfl, rfl, rfl, by decide, by decide⟩
instance : UnderIs Try.prog 6 (.int IntKind.u8) := ⟨Try.underlying6⟩
instance : SizeIs Try.prog 6 1 := ⟨by kernel_rfl⟩
instance : AggIs Try.prog 6 false := ⟨by kernel_rfl⟩
instance : ZeroIs Try.prog 6 ((Value.int IntKind.u8 0)) := ⟨by kernel_rfl⟩
instance : BytesIs Try.prog 6 1 1 := ⟨Try.t6, _, by kernel_rfl, rfl, rfl, rfl, rfl, by decide, by decide⟩
instance : FieldIs Try.prog 7 0 0 2 1 := ⟨_, _, Try.underlying7, rfl, rfl, rfl, by kernel_rfl, by decide⟩
instance : FieldIs Try.prog 7 1 1 3 1 := ⟨_, _, Try.underlying7, rfl, rfl, rfl, by kernel_rfl, by decide⟩
instance : FieldIs Try.prog 7 2 2 4 1 := ⟨_, _, Try.underlying7, rfl, rfl, rfl, by kernel_rfl, by decide⟩
instance : FieldIs Try.prog 7 3 3 6 1 := ⟨_, _, Try.underlying7, rfl, rfl, rfl, by kernel_rfl, by decide⟩
instance : StructOk Try.prog 7 := ⟨_, Try.underlying7, by kernel_rfl⟩
instance : SizeIs Try.prog 7 4 := ⟨by kernel_rfl⟩
instance : AggIs Try.prog 7 true := ⟨by kernel_rfl⟩
instance : ZeroIs Try.prog 7 ((Value.agg #[Value.int IntKind.i64 0, Value.int IntKind.i64 0, Value.bool false, Value.int IntKind.u8 0])) := ⟨by kernel_rfl⟩
instance : BytesIs Try.prog 7 4 24 := ⟨Try.t7, _, by kernel_rfl, rfl, rfl, rfl, rfl, by decide, by decide⟩
instance : FieldIs Try.prog 8 0 0 2 1 := ⟨_, _, Try.underlying8, rfl, rfl, rfl, by kernel_rfl, by decide⟩
instance : FieldIs Try.prog 8 1 1 3 1 := ⟨_, _, Try.underlying8, rfl, rfl, rfl, by kernel_rfl, by decide⟩
instance : FieldIs Try.prog 8 2 2 4 1 := ⟨_, _, Try.underlying8, rfl, rfl, rfl, by kernel_rfl, by decide⟩
instance : FieldIs Try.prog 8 3 3 6 1 := ⟨_, _, Try.underlying8, rfl, rfl, rfl, by kernel_rfl, by decide⟩
instance : StructOk Try.prog 8 := ⟨_, Try.underlying8, by kernel_rfl⟩
instance : SizeIs Try.prog 8 4 := ⟨by kernel_rfl⟩
instance : AggIs Try.prog 8 true := ⟨by kernel_rfl⟩
instance : ZeroIs Try.prog 8 ((Value.agg #[Value.int IntKind.i64 0, Value.int IntKind.i64 0, Value.bool false, Value.int IntKind.u8 0])) := ⟨by kernel_rfl⟩
instance : BytesIs Try.prog 8 4 24 := ⟨Try.t8, _, by kernel_rfl, rfl, rfl, rfl, rfl, by decide, by decide⟩
instance : UnderIs Try.prog 9 (.string) := ⟨Try.underlying9⟩
instance : SizeIs Try.prog 9 1 := ⟨by kernel_rfl⟩
instance : AggIs Try.prog 9 false := ⟨by kernel_rfl⟩
instance : ZeroIs Try.prog 9 ((Value.string ByteArray.empty)) := ⟨by kernel_rfl⟩
instance : BytesIs Try.prog 9 1 16 := ⟨Try.t9, _, by kernel_rfl, rfl, rfl, rfl, rfl, by decide, by decide⟩
instance : UnderIs Try.prog 10 (.string) := ⟨Try.underlying10⟩
instance : SizeIs Try.prog 10 1 := ⟨by kernel_rfl⟩
instance : AggIs Try.prog 10 false := ⟨by kernel_rfl⟩
instance : ZeroIs Try.prog 10 ((Value.string ByteArray.empty)) := ⟨by kernel_rfl⟩
instance : BytesIs Try.prog 10 1 16 := ⟨Try.t10, _, by kernel_rfl, rfl, rfl, rfl, rfl, by decide, by decide⟩
instance : UnderIs Try.prog 11 (.string) := ⟨Try.underlying11⟩
instance : SizeIs Try.prog 11 1 := ⟨by kernel_rfl⟩
instance : AggIs Try.prog 11 false := ⟨by kernel_rfl⟩
instance : ZeroIs Try.prog 11 ((Value.string ByteArray.empty)) := ⟨by kernel_rfl⟩
instance : BytesIs Try.prog 11 1 16 := ⟨Try.t11, _, by kernel_rfl, rfl, rfl, rfl, rfl, by decide, by decide⟩
instance : UnderIs Try.prog 12 (.int IntKind.u64) := ⟨Try.underlying12⟩
instance : SizeIs Try.prog 12 1 := ⟨by kernel_rfl⟩
instance : AggIs Try.prog 12 false := ⟨by kernel_rfl⟩
instance : ZeroIs Try.prog 12 ((Value.int IntKind.u64 0)) := ⟨by kernel_rfl⟩
instance : BytesIs Try.prog 12 1 8 := ⟨Try.t12, _, by kernel_rfl, rfl, rfl, rfl, rfl, by decide, by decide⟩
instance : FieldIs Try.prog 13 0 0 9 1 := ⟨_, _, Try.underlying13, rfl, rfl, rfl, by kernel_rfl, by decide⟩
instance : FieldIs Try.prog 13 1 1 12 1 := ⟨_, _, Try.underlying13, rfl, rfl, rfl, by kernel_rfl, by decide⟩
instance : StructOk Try.prog 13 := ⟨_, Try.underlying13, by kernel_rfl⟩
instance : SizeIs Try.prog 13 2 := ⟨by kernel_rfl⟩
instance : AggIs Try.prog 13 true := ⟨by kernel_rfl⟩
instance : ZeroIs Try.prog 13 ((Value.agg #[Value.string ByteArray.empty, Value.int IntKind.u64 0])) := ⟨by kernel_rfl⟩
instance : BytesIs Try.prog 13 2 24 := ⟨Try.t13, _, by kernel_rfl, rfl, rfl, rfl, rfl, by decide, by decide⟩
instance : FieldIs Try.prog 14 0 0 9 1 := ⟨_, _, Try.underlying14, rfl, rfl, rfl, by kernel_rfl, by decide⟩
instance : FieldIs Try.prog 14 1 1 12 1 := ⟨_, _, Try.underlying14, rfl, rfl, rfl, by kernel_rfl, by decide⟩
instance : StructOk Try.prog 14 := ⟨_, Try.underlying14, by kernel_rfl⟩
instance : SizeIs Try.prog 14 2 := ⟨by kernel_rfl⟩
instance : AggIs Try.prog 14 true := ⟨by kernel_rfl⟩
instance : ZeroIs Try.prog 14 ((Value.agg #[Value.string ByteArray.empty, Value.int IntKind.u64 0])) := ⟨by kernel_rfl⟩
instance : BytesIs Try.prog 14 2 24 := ⟨Try.t14, _, by kernel_rfl, rfl, rfl, rfl, rfl, by decide, by decide⟩
instance : UnderIs Try.prog 15 (.pointer 215) := ⟨Try.underlying15⟩
instance : SizeIs Try.prog 15 1 := ⟨by kernel_rfl⟩
instance : AggIs Try.prog 15 false := ⟨by kernel_rfl⟩
instance : ZeroIs Try.prog 15 ((Value.pointer none)) := ⟨by kernel_rfl⟩
instance : BytesIs Try.prog 15 1 8 := ⟨Try.t15, _, by kernel_rfl, rfl, rfl, rfl, rfl, by decide, by decide⟩
instance : UnderIs Try.prog 16 (.pointer 218) := ⟨Try.underlying16⟩
instance : SizeIs Try.prog 16 1 := ⟨by kernel_rfl⟩
instance : AggIs Try.prog 16 false := ⟨by kernel_rfl⟩
instance : ZeroIs Try.prog 16 ((Value.pointer none)) := ⟨by kernel_rfl⟩
instance : BytesIs Try.prog 16 1 8 := ⟨Try.t16, _, by kernel_rfl, rfl, rfl, rfl, rfl, by decide, by decide⟩
instance : UnderIs Try.prog 17 (.pointer 228) := ⟨Try.underlying17⟩
instance : SizeIs Try.prog 17 1 := ⟨by kernel_rfl⟩
instance : AggIs Try.prog 17 false := ⟨by kernel_rfl⟩
instance : ZeroIs Try.prog 17 ((Value.pointer none)) := ⟨by kernel_rfl⟩
instance : BytesIs Try.prog 17 1 8 := ⟨Try.t17, _, by kernel_rfl, rfl, rfl, rfl, rfl, by decide, by decide⟩
instance : FieldIs Try.prog 18 0 0 17 1 := ⟨_, _, Try.underlying18, rfl, rfl, rfl, by kernel_rfl, by decide⟩
instance : StructOk Try.prog 18 := ⟨_, Try.underlying18, by kernel_rfl⟩
instance : SizeIs Try.prog 18 1 := ⟨by kernel_rfl⟩
instance : AggIs Try.prog 18 true := ⟨by kernel_rfl⟩
instance : ZeroIs Try.prog 18 ((Value.agg #[Value.pointer none])) := ⟨by kernel_rfl⟩
instance : BytesIs Try.prog 18 1 8 := ⟨Try.t18, _, by kernel_rfl, rfl, rfl, rfl, rfl, by decide, by decide⟩
instance : FieldIs Try.prog 19 0 0 17 1 := ⟨_, _, Try.underlying19, rfl, rfl, rfl, by kernel_rfl, by decide⟩
instance : StructOk Try.prog 19 := ⟨_, Try.underlying19, by kernel_rfl⟩
instance : SizeIs Try.prog 19 1 := ⟨by kernel_rfl⟩
instance : AggIs Try.prog 19 true := ⟨by kernel_rfl⟩
instance : ZeroIs Try.prog 19 ((Value.agg #[Value.pointer none])) := ⟨by kernel_rfl⟩
instance : BytesIs Try.prog 19 1 8 := ⟨Try.t19, _, by kernel_rfl, rfl, rfl, rfl, rfl, by decide, by decide⟩
instance : UnderIs Try.prog 21 (.int IntKind.i32) := ⟨Try.underlying21⟩
instance : SizeIs Try.prog 21 1 := ⟨by kernel_rfl⟩
instance : AggIs Try.prog 21 false := ⟨by kernel_rfl⟩
instance : ZeroIs Try.prog 21 ((Value.int IntKind.i32 0)) := ⟨by kernel_rfl⟩
instance : BytesIs Try.prog 21 1 4 := ⟨Try.t21, _, by kernel_rfl, rfl, rfl, rfl, rfl, by decide, by decide⟩
instance : UnderIs Try.prog 22 (.slice 72) := ⟨Try.underlying22⟩
instance : SizeIs Try.prog 22 1 := ⟨by kernel_rfl⟩
instance : AggIs Try.prog 22 false := ⟨by kernel_rfl⟩
instance : ZeroIs Try.prog 22 ((Value.slice none 0 0)) := ⟨by kernel_rfl⟩
instance : BytesIs Try.prog 22 1 24 := ⟨Try.t22, _, by kernel_rfl, rfl, rfl, rfl, rfl, by decide, by decide⟩
instance : FieldIs Try.prog 23 0 0 3 1 := ⟨_, _, Try.underlying23, rfl, rfl, rfl, by kernel_rfl, by decide⟩
instance : FieldIs Try.prog 23 1 1 3 1 := ⟨_, _, Try.underlying23, rfl, rfl, rfl, by kernel_rfl, by decide⟩
instance : FieldIs Try.prog 23 2 2 22 1 := ⟨_, _, Try.underlying23, rfl, rfl, rfl, by kernel_rfl, by decide⟩
instance : StructOk Try.prog 23 := ⟨_, Try.underlying23, by kernel_rfl⟩
instance : SizeIs Try.prog 23 3 := ⟨by kernel_rfl⟩
instance : AggIs Try.prog 23 true := ⟨by kernel_rfl⟩
instance : ZeroIs Try.prog 23 ((Value.agg #[Value.int IntKind.i64 0, Value.int IntKind.i64 0, Value.slice none 0 0])) := ⟨by kernel_rfl⟩
instance : BytesIs Try.prog 23 3 40 := ⟨Try.t23, _, by kernel_rfl, rfl, rfl, rfl, rfl, by decide, by decide⟩
instance : FieldIs Try.prog 24 0 0 3 1 := ⟨_, _, Try.underlying24, rfl, rfl, rfl, by kernel_rfl, by decide⟩
instance : FieldIs Try.prog 24 1 1 3 1 := ⟨_, _, Try.underlying24, rfl, rfl, rfl, by kernel_rfl, by decide⟩
instance : FieldIs Try.prog 24 2 2 22 1 := ⟨_, _, Try.underlying24, rfl, rfl, rfl, by kernel_rfl, by decide⟩
instance : StructOk Try.prog 24 := ⟨_, Try.underlying24, by kernel_rfl⟩
instance : SizeIs Try.prog 24 3 := ⟨by kernel_rfl⟩
instance : AggIs Try.prog 24 true := ⟨by kernel_rfl⟩
instance : ZeroIs Try.prog 24 ((Value.agg #[Value.int IntKind.i64 0, Value.int IntKind.i64 0, Value.slice none 0 0])) := ⟨by kernel_rfl⟩
instance : BytesIs Try.prog 24 3 40 := ⟨Try.t24, _, by kernel_rfl, rfl, rfl, rfl, rfl, by decide, by decide⟩
instance : UnderIs Try.prog 25 (.slice 28) := ⟨Try.underlying25⟩
instance : SizeIs Try.prog 25 1 := ⟨by kernel_rfl⟩
instance : AggIs Try.prog 25 false := ⟨by kernel_rfl⟩
instance : ZeroIs Try.prog 25 ((Value.slice none 0 0)) := ⟨by kernel_rfl⟩
instance : BytesIs Try.prog 25 1 24 := ⟨Try.t25, _, by kernel_rfl, rfl, rfl, rfl, rfl, by decide, by decide⟩
instance : FieldIs Try.prog 26 0 0 3 1 := ⟨_, _, Try.underlying26, rfl, rfl, rfl, by kernel_rfl, by decide⟩
instance : FieldIs Try.prog 26 1 1 25 1 := ⟨_, _, Try.underlying26, rfl, rfl, rfl, by kernel_rfl, by decide⟩
instance : StructOk Try.prog 26 := ⟨_, Try.underlying26, by kernel_rfl⟩
instance : SizeIs Try.prog 26 2 := ⟨by kernel_rfl⟩
instance : AggIs Try.prog 26 true := ⟨by kernel_rfl⟩
instance : ZeroIs Try.prog 26 ((Value.agg #[Value.int IntKind.i64 0, Value.slice none 0 0])) := ⟨by kernel_rfl⟩
instance : BytesIs Try.prog 26 2 32 := ⟨Try.t26, _, by kernel_rfl, rfl, rfl, rfl, rfl, by decide, by decide⟩
instance : FieldIs Try.prog 27 0 0 3 1 := ⟨_, _, Try.underlying27, rfl, rfl, rfl, by kernel_rfl, by decide⟩
instance : FieldIs Try.prog 27 1 1 25 1 := ⟨_, _, Try.underlying27, rfl, rfl, rfl, by kernel_rfl, by decide⟩
instance : StructOk Try.prog 27 := ⟨_, Try.underlying27, by kernel_rfl⟩
instance : SizeIs Try.prog 27 2 := ⟨by kernel_rfl⟩
instance : AggIs Try.prog 27 true := ⟨by kernel_rfl⟩
instance : ZeroIs Try.prog 27 ((Value.agg #[Value.int IntKind.i64 0, Value.slice none 0 0])) := ⟨by kernel_rfl⟩
instance : BytesIs Try.prog 27 2 32 := ⟨Try.t27, _, by kernel_rfl, rfl, rfl, rfl, rfl, by decide, by decide⟩
instance : UnderIs Try.prog 28 (.int IntKind.u64) := ⟨Try.underlying28⟩
instance : SizeIs Try.prog 28 1 := ⟨by kernel_rfl⟩
instance : AggIs Try.prog 28 false := ⟨by kernel_rfl⟩
instance : ZeroIs Try.prog 28 ((Value.int IntKind.u64 0)) := ⟨by kernel_rfl⟩
instance : BytesIs Try.prog 28 1 8 := ⟨Try.t28, _, by kernel_rfl, rfl, rfl, rfl, rfl, by decide, by decide⟩
instance : FieldIs Try.prog 29 0 0 24 3 := ⟨_, _, Try.underlying29, rfl, rfl, rfl, by kernel_rfl, by decide⟩
instance : FieldIs Try.prog 29 1 3 24 3 := ⟨_, _, Try.underlying29, rfl, rfl, rfl, by kernel_rfl, by decide⟩
instance : FieldIs Try.prog 29 2 6 27 2 := ⟨_, _, Try.underlying29, rfl, rfl, rfl, by kernel_rfl, by decide⟩
instance : FieldIs Try.prog 29 3 8 28 1 := ⟨_, _, Try.underlying29, rfl, rfl, rfl, by kernel_rfl, by decide⟩
instance : StructOk Try.prog 29 := ⟨_, Try.underlying29, by kernel_rfl⟩
instance : SizeIs Try.prog 29 9 := ⟨by kernel_rfl⟩
instance : AggIs Try.prog 29 true := ⟨by kernel_rfl⟩
instance : ZeroIs Try.prog 29 ((Value.agg #[Value.int IntKind.i64 0, Value.int IntKind.i64 0, Value.slice none 0 0, Value.int IntKind.i64 0, Value.int IntKind.i64 0, Value.slice none 0 0, Value.int IntKind.i64 0, Value.slice none 0 0, Value.int IntKind.u64 0])) := ⟨by kernel_rfl⟩
instance : BytesIs Try.prog 29 9 120 := ⟨Try.t29, _, by kernel_rfl, rfl, rfl, rfl, rfl, by decide, by decide⟩
instance : FieldIs Try.prog 30 0 0 24 3 := ⟨_, _, Try.underlying30, rfl, rfl, rfl, by kernel_rfl, by decide⟩
instance : FieldIs Try.prog 30 1 3 24 3 := ⟨_, _, Try.underlying30, rfl, rfl, rfl, by kernel_rfl, by decide⟩
instance : FieldIs Try.prog 30 2 6 27 2 := ⟨_, _, Try.underlying30, rfl, rfl, rfl, by kernel_rfl, by decide⟩
instance : FieldIs Try.prog 30 3 8 28 1 := ⟨_, _, Try.underlying30, rfl, rfl, rfl, by kernel_rfl, by decide⟩
instance : StructOk Try.prog 30 := ⟨_, Try.underlying30, by kernel_rfl⟩
instance : SizeIs Try.prog 30 9 := ⟨by kernel_rfl⟩
instance : AggIs Try.prog 30 true := ⟨by kernel_rfl⟩
instance : ZeroIs Try.prog 30 ((Value.agg #[Value.int IntKind.i64 0, Value.int IntKind.i64 0, Value.slice none 0 0, Value.int IntKind.i64 0, Value.int IntKind.i64 0, Value.slice none 0 0, Value.int IntKind.i64 0, Value.slice none 0 0, Value.int IntKind.u64 0])) := ⟨by kernel_rfl⟩
instance : BytesIs Try.prog 30 9 120 := ⟨Try.t30, _, by kernel_rfl, rfl, rfl, rfl, rfl, by decide, by decide⟩
instance : SizeIs Try.prog 31 1 := ⟨by kernel_rfl⟩
instance : AggIs Try.prog 31 false := ⟨by kernel_rfl⟩
instance : ZeroIs Try.prog 31 (Value.nilFunc) := ⟨by kernel_rfl⟩
instance : BytesIs Try.prog 31 1 8 := ⟨Try.t31, _, by kernel_rfl, rfl, rfl, rfl, rfl, by decide, by decide⟩
instance : UnderIs Try.prog 32 (.int IntKind.i64) := ⟨Try.underlying32⟩
instance : SizeIs Try.prog 32 1 := ⟨by kernel_rfl⟩
instance : AggIs Try.prog 32 false := ⟨by kernel_rfl⟩
instance : ZeroIs Try.prog 32 ((Value.int IntKind.i64 0)) := ⟨by kernel_rfl⟩
instance : BytesIs Try.prog 32 1 8 := ⟨Try.t32, _, by kernel_rfl, rfl, rfl, rfl, rfl, by decide, by decide⟩
instance : SizeIs Try.prog 34 1 := ⟨by kernel_rfl⟩
instance : AggIs Try.prog 34 false := ⟨by kernel_rfl⟩
instance : ZeroIs Try.prog 34 (Value.nilFunc) := ⟨by kernel_rfl⟩
instance : BytesIs Try.prog 34 1 8 := ⟨Try.t34, _, by kernel_rfl, rfl, rfl, rfl, rfl, by decide, by decide⟩
instance : SizeIs Try.prog 36 1 := ⟨by kernel_rfl⟩
instance : AggIs Try.prog 36 false := ⟨by kernel_rfl⟩
instance : ZeroIs Try.prog 36 (Value.nilFunc) := ⟨by kernel_rfl⟩
instance : BytesIs Try.prog 36 1 8 := ⟨Try.t36, _, by kernel_rfl, rfl, rfl, rfl, rfl, by decide, by decide⟩
instance : SizeIs Try.prog 37 1 := ⟨by kernel_rfl⟩
instance : AggIs Try.prog 37 false := ⟨by kernel_rfl⟩
instance : ZeroIs Try.prog 37 (Value.nilFunc) := ⟨by kernel_rfl⟩
instance : BytesIs Try.prog 37 1 8 := ⟨Try.t37, _, by kernel_rfl, rfl, rfl, rfl, rfl, by decide, by decide⟩
instance : SizeIs Try.prog 38 1 := ⟨by kernel_rfl⟩
instance : AggIs Try.prog 38 false := ⟨by kernel_rfl⟩
instance : ZeroIs Try.prog 38 (Value.nilFunc) := ⟨by kernel_rfl⟩
instance : BytesIs Try.prog 38 1 8 := ⟨Try.t38, _, by kernel_rfl, rfl, rfl, rfl, rfl, by decide, by decide⟩
instance : SizeIs Try.prog 39 1 := ⟨by kernel_rfl⟩
instance : AggIs Try.prog 39 false := ⟨by kernel_rfl⟩
instance : ZeroIs Try.prog 39 (Value.nilFunc) := ⟨by kernel_rfl⟩
instance : BytesIs Try.prog 39 1 8 := ⟨Try.t39, _, by kernel_rfl, rfl, rfl, rfl, rfl, by decide, by decide⟩
instance : SizeIs Try.prog 40 1 := ⟨by kernel_rfl⟩
instance : AggIs Try.prog 40 false := ⟨by kernel_rfl⟩
instance : ZeroIs Try.prog 40 (Value.nilFunc) := ⟨by kernel_rfl⟩
instance : BytesIs Try.prog 40 1 8 := ⟨Try.t40, _, by kernel_rfl, rfl, rfl, rfl, rfl, by decide, by decide⟩
instance : SizeIs Try.prog 41 1 := ⟨by kernel_rfl⟩
instance : AggIs Try.prog 41 false := ⟨by kernel_rfl⟩
instance : ZeroIs Try.prog 41 (Value.nilFunc) := ⟨by kernel_rfl⟩
instance : BytesIs Try.prog 41 1 8 := ⟨Try.t41, _, by kernel_rfl, rfl, rfl, rfl, rfl, by decide, by decide⟩
instance : UnderIs Try.prog 42 (.slice 52) := ⟨Try.underlying42⟩
instance : SizeIs Try.prog 42 1 := ⟨by kernel_rfl⟩
instance : AggIs Try.prog 42 false := ⟨by kernel_rfl⟩
instance : ZeroIs Try.prog 42 ((Value.slice none 0 0)) := ⟨by kernel_rfl⟩
instance : BytesIs Try.prog 42 1 24 := ⟨Try.t42, _, by kernel_rfl, rfl, rfl, rfl, rfl, by decide, by decide⟩
instance : FieldIs Try.prog 43 0 0 3 1 := ⟨_, _, Try.underlying43, rfl, rfl, rfl, by kernel_rfl, by decide⟩
instance : FieldIs Try.prog 43 1 1 3 1 := ⟨_, _, Try.underlying43, rfl, rfl, rfl, by kernel_rfl, by decide⟩
instance : FieldIs Try.prog 43 2 2 42 1 := ⟨_, _, Try.underlying43, rfl, rfl, rfl, by kernel_rfl, by decide⟩
instance : StructOk Try.prog 43 := ⟨_, Try.underlying43, by kernel_rfl⟩
instance : SizeIs Try.prog 43 3 := ⟨by kernel_rfl⟩
instance : AggIs Try.prog 43 true := ⟨by kernel_rfl⟩
instance : ZeroIs Try.prog 43 ((Value.agg #[Value.int IntKind.i64 0, Value.int IntKind.i64 0, Value.slice none 0 0])) := ⟨by kernel_rfl⟩
instance : BytesIs Try.prog 43 3 40 := ⟨Try.t43, _, by kernel_rfl, rfl, rfl, rfl, rfl, by decide, by decide⟩
instance : FieldIs Try.prog 44 0 0 3 1 := ⟨_, _, Try.underlying44, rfl, rfl, rfl, by kernel_rfl, by decide⟩
instance : FieldIs Try.prog 44 1 1 3 1 := ⟨_, _, Try.underlying44, rfl, rfl, rfl, by kernel_rfl, by decide⟩
instance : FieldIs Try.prog 44 2 2 42 1 := ⟨_, _, Try.underlying44, rfl, rfl, rfl, by kernel_rfl, by decide⟩
instance : StructOk Try.prog 44 := ⟨_, Try.underlying44, by kernel_rfl⟩
instance : SizeIs Try.prog 44 3 := ⟨by kernel_rfl⟩
instance : AggIs Try.prog 44 true := ⟨by kernel_rfl⟩
instance : ZeroIs Try.prog 44 ((Value.agg #[Value.int IntKind.i64 0, Value.int IntKind.i64 0, Value.slice none 0 0])) := ⟨by kernel_rfl⟩
instance : BytesIs Try.prog 44 3 40 := ⟨Try.t44, _, by kernel_rfl, rfl, rfl, rfl, rfl, by decide, by decide⟩
instance : SizeIs Try.prog 46 1 := ⟨by kernel_rfl⟩
instance : AggIs Try.prog 46 false := ⟨by kernel_rfl⟩
instance : ZeroIs Try.prog 46 (Value.nilFunc) := ⟨by kernel_rfl⟩
instance : BytesIs Try.prog 46 1 8 := ⟨Try.t46, _, by kernel_rfl, rfl, rfl, rfl, rfl, by decide, by decide⟩
instance : SizeIs Try.prog 47 1 := ⟨by kernel_rfl⟩
instance : AggIs Try.prog 47 false := ⟨by kernel_rfl⟩
instance : ZeroIs Try.prog 47 (Value.nilFunc) := ⟨by kernel_rfl⟩
instance : BytesIs Try.prog 47 1 8 := ⟨Try.t47, _, by kernel_rfl, rfl, rfl, rfl, rfl, by decide, by decide⟩
instance : SizeIs Try.prog 49 1 := ⟨by kernel_rfl⟩
instance : AggIs Try.prog 49 false := ⟨by kernel_rfl⟩
instance : ZeroIs Try.prog 49 (Value.nilFunc) := ⟨by kernel_rfl⟩
instance : BytesIs Try.prog 49 1 8 := ⟨Try.t49, _, by kernel_rfl, rfl, rfl, rfl, rfl, by decide, by decide⟩
instance : UnderIs Try.prog 50 (.complex Go.FloatKind.f64) := ⟨Try.underlying50⟩
instance : SizeIs Try.prog 50 1 := ⟨by kernel_rfl⟩
instance : AggIs Try.prog 50 false := ⟨by kernel_rfl⟩
instance : ZeroIs Try.prog 50 ((Value.complex FloatKind.f64 0 0)) := ⟨by kernel_rfl⟩
instance : BytesIs Try.prog 50 1 16 := ⟨Try.t50, _, by kernel_rfl, rfl, rfl, rfl, rfl, by decide, by decide⟩
instance : FieldIs Try.prog 51 0 0 50 1 := ⟨_, _, Try.underlying51, rfl, rfl, rfl, by kernel_rfl, by decide⟩
instance : FieldIs Try.prog 51 1 1 50 1 := ⟨_, _, Try.underlying51, rfl, rfl, rfl, by kernel_rfl, by decide⟩
instance : StructOk Try.prog 51 := ⟨_, Try.underlying51, by kernel_rfl⟩
instance : SizeIs Try.prog 51 2 := ⟨by kernel_rfl⟩
instance : AggIs Try.prog 51 true := ⟨by kernel_rfl⟩
instance : ZeroIs Try.prog 51 ((Value.agg #[Value.complex FloatKind.f64 0 0, Value.complex FloatKind.f64 0 0])) := ⟨by kernel_rfl⟩
instance : BytesIs Try.prog 51 2 32 := ⟨Try.t51, _, by kernel_rfl, rfl, rfl, rfl, rfl, by decide, by decide⟩
instance : FieldIs Try.prog 52 0 0 50 1 := ⟨_, _, Try.underlying52, rfl, rfl, rfl, by kernel_rfl, by decide⟩
instance : FieldIs Try.prog 52 1 1 50 1 := ⟨_, _, Try.underlying52, rfl, rfl, rfl, by kernel_rfl, by decide⟩
instance : StructOk Try.prog 52 := ⟨_, Try.underlying52, by kernel_rfl⟩
instance : SizeIs Try.prog 52 2 := ⟨by kernel_rfl⟩
instance : AggIs Try.prog 52 true := ⟨by kernel_rfl⟩
instance : ZeroIs Try.prog 52 ((Value.agg #[Value.complex FloatKind.f64 0 0, Value.complex FloatKind.f64 0 0])) := ⟨by kernel_rfl⟩
instance : BytesIs Try.prog 52 2 32 := ⟨Try.t52, _, by kernel_rfl, rfl, rfl, rfl, rfl, by decide, by decide⟩
instance : SizeIs Try.prog 53 1 := ⟨by kernel_rfl⟩
instance : AggIs Try.prog 53 false := ⟨by kernel_rfl⟩
instance : ZeroIs Try.prog 53 (Value.nilFunc) := ⟨by kernel_rfl⟩
instance : BytesIs Try.prog 53 1 8 := ⟨Try.t53, _, by kernel_rfl, rfl, rfl, rfl, rfl, by decide, by decide⟩
instance : SizeIs Try.prog 54 1 := ⟨by kernel_rfl⟩
instance : AggIs Try.prog 54 false := ⟨by kernel_rfl⟩
instance : ZeroIs Try.prog 54 (Value.nilFunc) := ⟨by kernel_rfl⟩
instance : BytesIs Try.prog 54 1 8 := ⟨Try.t54, _, by kernel_rfl, rfl, rfl, rfl, rfl, by decide, by decide⟩
instance : SizeIs Try.prog 55 1 := ⟨by kernel_rfl⟩
instance : AggIs Try.prog 55 false := ⟨by kernel_rfl⟩
instance : ZeroIs Try.prog 55 (Value.nilFunc) := ⟨by kernel_rfl⟩
instance : BytesIs Try.prog 55 1 8 := ⟨Try.t55, _, by kernel_rfl, rfl, rfl, rfl, rfl, by decide, by decide⟩
instance : SizeIs Try.prog 56 1 := ⟨by kernel_rfl⟩
instance : AggIs Try.prog 56 false := ⟨by kernel_rfl⟩
instance : ZeroIs Try.prog 56 (Value.nilFunc) := ⟨by kernel_rfl⟩
instance : BytesIs Try.prog 56 1 8 := ⟨Try.t56, _, by kernel_rfl, rfl, rfl, rfl, rfl, by decide, by decide⟩
instance : SizeIs Try.prog 58 1 := ⟨by kernel_rfl⟩
instance : AggIs Try.prog 58 false := ⟨by kernel_rfl⟩
instance : ZeroIs Try.prog 58 (Value.nilFunc) := ⟨by kernel_rfl⟩
instance : BytesIs Try.prog 58 1 8 := ⟨Try.t58, _, by kernel_rfl, rfl, rfl, rfl, rfl, by decide, by decide⟩
instance : SizeIs Try.prog 59 1 := ⟨by kernel_rfl⟩
instance : AggIs Try.prog 59 false := ⟨by kernel_rfl⟩
instance : ZeroIs Try.prog 59 (Value.nilFunc) := ⟨by kernel_rfl⟩
instance : BytesIs Try.prog 59 1 8 := ⟨Try.t59, _, by kernel_rfl, rfl, rfl, rfl, rfl, by decide, by decide⟩
instance : SizeIs Try.prog 61 1 := ⟨by kernel_rfl⟩
instance : AggIs Try.prog 61 false := ⟨by kernel_rfl⟩
instance : ZeroIs Try.prog 61 (Value.nilFunc) := ⟨by kernel_rfl⟩
instance : BytesIs Try.prog 61 1 8 := ⟨Try.t61, _, by kernel_rfl, rfl, rfl, rfl, rfl, by decide, by decide⟩
instance : SizeIs Try.prog 63 1 := ⟨by kernel_rfl⟩
instance : AggIs Try.prog 63 false := ⟨by kernel_rfl⟩
instance : ZeroIs Try.prog 63 (Value.nilFunc) := ⟨by kernel_rfl⟩
instance : BytesIs Try.prog 63 1 8 := ⟨Try.t63, _, by kernel_rfl, rfl, rfl, rfl, rfl, by decide, by decide⟩
instance : SizeIs Try.prog 65 1 := ⟨by kernel_rfl⟩
instance : AggIs Try.prog 65 false := ⟨by kernel_rfl⟩
instance : ZeroIs Try.prog 65 (Value.nilFunc) := ⟨by kernel_rfl⟩
instance : BytesIs Try.prog 65 1 8 := ⟨Try.t65, _, by kernel_rfl, rfl, rfl, rfl, rfl, by decide, by decide⟩
instance : SizeIs Try.prog 66 1 := ⟨by kernel_rfl⟩
instance : AggIs Try.prog 66 false := ⟨by kernel_rfl⟩
instance : ZeroIs Try.prog 66 (Value.nilFunc) := ⟨by kernel_rfl⟩
instance : BytesIs Try.prog 66 1 8 := ⟨Try.t66, _, by kernel_rfl, rfl, rfl, rfl, rfl, by decide, by decide⟩
instance : SizeIs Try.prog 67 1 := ⟨by kernel_rfl⟩
instance : AggIs Try.prog 67 false := ⟨by kernel_rfl⟩
instance : ZeroIs Try.prog 67 (Value.nilFunc) := ⟨by kernel_rfl⟩
instance : BytesIs Try.prog 67 1 8 := ⟨Try.t67, _, by kernel_rfl, rfl, rfl, rfl, rfl, by decide, by decide⟩
instance : SizeIs Try.prog 68 1 := ⟨by kernel_rfl⟩
instance : AggIs Try.prog 68 false := ⟨by kernel_rfl⟩
instance : ZeroIs Try.prog 68 (Value.nilFunc) := ⟨by kernel_rfl⟩
instance : BytesIs Try.prog 68 1 8 := ⟨Try.t68, _, by kernel_rfl, rfl, rfl, rfl, rfl, by decide, by decide⟩
instance : SizeIs Try.prog 69 1 := ⟨by kernel_rfl⟩
instance : AggIs Try.prog 69 false := ⟨by kernel_rfl⟩
instance : ZeroIs Try.prog 69 (Value.nilFunc) := ⟨by kernel_rfl⟩
instance : BytesIs Try.prog 69 1 8 := ⟨Try.t69, _, by kernel_rfl, rfl, rfl, rfl, rfl, by decide, by decide⟩
instance : UnderIs Try.prog 70 (.slice 3) := ⟨Try.underlying70⟩
instance : SizeIs Try.prog 70 1 := ⟨by kernel_rfl⟩
instance : AggIs Try.prog 70 false := ⟨by kernel_rfl⟩
instance : ZeroIs Try.prog 70 ((Value.slice none 0 0)) := ⟨by kernel_rfl⟩
instance : BytesIs Try.prog 70 1 24 := ⟨Try.t70, _, by kernel_rfl, rfl, rfl, rfl, rfl, by decide, by decide⟩
instance : FieldIs Try.prog 71 0 0 3 1 := ⟨_, _, Try.underlying71, rfl, rfl, rfl, by kernel_rfl, by decide⟩
instance : FieldIs Try.prog 71 1 1 9 1 := ⟨_, _, Try.underlying71, rfl, rfl, rfl, by kernel_rfl, by decide⟩
instance : FieldIs Try.prog 71 2 2 70 1 := ⟨_, _, Try.underlying71, rfl, rfl, rfl, by kernel_rfl, by decide⟩
instance : FieldIs Try.prog 71 3 3 3 1 := ⟨_, _, Try.underlying71, rfl, rfl, rfl, by kernel_rfl, by decide⟩
instance : FieldIs Try.prog 71 4 4 4 1 := ⟨_, _, Try.underlying71, rfl, rfl, rfl, by kernel_rfl, by decide⟩
instance : FieldIs Try.prog 71 5 5 28 1 := ⟨_, _, Try.underlying71, rfl, rfl, rfl, by kernel_rfl, by decide⟩
instance : FieldIs Try.prog 71 6 6 28 1 := ⟨_, _, Try.underlying71, rfl, rfl, rfl, by kernel_rfl, by decide⟩
instance : StructOk Try.prog 71 := ⟨_, Try.underlying71, by kernel_rfl⟩
instance : SizeIs Try.prog 71 7 := ⟨by kernel_rfl⟩
instance : AggIs Try.prog 71 true := ⟨by kernel_rfl⟩
instance : ZeroIs Try.prog 71 ((Value.agg #[Value.int IntKind.i64 0, Value.string ByteArray.empty, Value.slice none 0 0, Value.int IntKind.i64 0, Value.bool false, Value.int IntKind.u64 0, Value.int IntKind.u64 0])) := ⟨by kernel_rfl⟩
instance : BytesIs Try.prog 71 7 80 := ⟨Try.t71, _, by kernel_rfl, rfl, rfl, rfl, rfl, by decide, by decide⟩
instance : FieldIs Try.prog 72 0 0 3 1 := ⟨_, _, Try.underlying72, rfl, rfl, rfl, by kernel_rfl, by decide⟩
instance : FieldIs Try.prog 72 1 1 9 1 := ⟨_, _, Try.underlying72, rfl, rfl, rfl, by kernel_rfl, by decide⟩
instance : FieldIs Try.prog 72 2 2 70 1 := ⟨_, _, Try.underlying72, rfl, rfl, rfl, by kernel_rfl, by decide⟩
instance : FieldIs Try.prog 72 3 3 3 1 := ⟨_, _, Try.underlying72, rfl, rfl, rfl, by kernel_rfl, by decide⟩
instance : FieldIs Try.prog 72 4 4 4 1 := ⟨_, _, Try.underlying72, rfl, rfl, rfl, by kernel_rfl, by decide⟩
instance : FieldIs Try.prog 72 5 5 28 1 := ⟨_, _, Try.underlying72, rfl, rfl, rfl, by kernel_rfl, by decide⟩
instance : FieldIs Try.prog 72 6 6 28 1 := ⟨_, _, Try.underlying72, rfl, rfl, rfl, by kernel_rfl, by decide⟩
instance : StructOk Try.prog 72 := ⟨_, Try.underlying72, by kernel_rfl⟩
instance : SizeIs Try.prog 72 7 := ⟨by kernel_rfl⟩
instance : AggIs Try.prog 72 true := ⟨by kernel_rfl⟩
instance : ZeroIs Try.prog 72 ((Value.agg #[Value.int IntKind.i64 0, Value.string ByteArray.empty, Value.slice none 0 0, Value.int IntKind.i64 0, Value.bool false, Value.int IntKind.u64 0, Value.int IntKind.u64 0])) := ⟨by kernel_rfl⟩
instance : BytesIs Try.prog 72 7 80 := ⟨Try.t72, _, by kernel_rfl, rfl, rfl, rfl, rfl, by decide, by decide⟩
instance : SizeIs Try.prog 73 1 := ⟨by kernel_rfl⟩
instance : AggIs Try.prog 73 false := ⟨by kernel_rfl⟩
instance : ZeroIs Try.prog 73 (Value.nilFunc) := ⟨by kernel_rfl⟩
instance : BytesIs Try.prog 73 1 8 := ⟨Try.t73, _, by kernel_rfl, rfl, rfl, rfl, rfl, by decide, by decide⟩
instance : SizeIs Try.prog 75 1 := ⟨by kernel_rfl⟩
instance : AggIs Try.prog 75 false := ⟨by kernel_rfl⟩
instance : ZeroIs Try.prog 75 (Value.nilFunc) := ⟨by kernel_rfl⟩
instance : BytesIs Try.prog 75 1 8 := ⟨Try.t75, _, by kernel_rfl, rfl, rfl, rfl, rfl, by decide, by decide⟩
instance : SizeIs Try.prog 76 1 := ⟨by kernel_rfl⟩
instance : AggIs Try.prog 76 false := ⟨by kernel_rfl⟩
instance : ZeroIs Try.prog 76 (Value.nilFunc) := ⟨by kernel_rfl⟩
instance : BytesIs Try.prog 76 1 8 := ⟨Try.t76, _, by kernel_rfl, rfl, rfl, rfl, rfl, by decide, by decide⟩
instance : SizeIs Try.prog 77 1 := ⟨by kernel_rfl⟩
instance : AggIs Try.prog 77 false := ⟨by kernel_rfl⟩
instance : ZeroIs Try.prog 77 (Value.nilFunc) := ⟨by kernel_rfl⟩
instance : BytesIs Try.prog 77 1 8 := ⟨Try.t77, _, by kernel_rfl, rfl, rfl, rfl, rfl, by decide, by decide⟩
instance : SizeIs Try.prog 78 1 := ⟨by kernel_rfl⟩
instance : AggIs Try.prog 78 false := ⟨by kernel_rfl⟩
instance : ZeroIs Try.prog 78 (Value.nilFunc) := ⟨by kernel_rfl⟩
instance : BytesIs Try.prog 78 1 8 := ⟨Try.t78, _, by kernel_rfl, rfl, rfl, rfl, rfl, by decide, by decide⟩
instance : SizeIs Try.prog 79 1 := ⟨by kernel_rfl⟩
instance : AggIs Try.prog 79 false := ⟨by kernel_rfl⟩
instance : ZeroIs Try.prog 79 (Value.nilFunc) := ⟨by kernel_rfl⟩
instance : BytesIs Try.prog 79 1 8 := ⟨Try.t79, _, by kernel_rfl, rfl, rfl, rfl, rfl, by decide, by decide⟩
instance : SizeIs Try.prog 80 1 := ⟨by kernel_rfl⟩
instance : AggIs Try.prog 80 false := ⟨by kernel_rfl⟩
instance : ZeroIs Try.prog 80 (Value.nilFunc) := ⟨by kernel_rfl⟩
instance : BytesIs Try.prog 80 1 8 := ⟨Try.t80, _, by kernel_rfl, rfl, rfl, rfl, rfl, by decide, by decide⟩
instance : SizeIs Try.prog 82 1 := ⟨by kernel_rfl⟩
instance : AggIs Try.prog 82 false := ⟨by kernel_rfl⟩
instance : ZeroIs Try.prog 82 (Value.nilFunc) := ⟨by kernel_rfl⟩
instance : BytesIs Try.prog 82 1 8 := ⟨Try.t82, _, by kernel_rfl, rfl, rfl, rfl, rfl, by decide, by decide⟩
instance : SizeIs Try.prog 84 1 := ⟨by kernel_rfl⟩
instance : AggIs Try.prog 84 false := ⟨by kernel_rfl⟩
instance : ZeroIs Try.prog 84 (Value.nilFunc) := ⟨by kernel_rfl⟩
instance : BytesIs Try.prog 84 1 8 := ⟨Try.t84, _, by kernel_rfl, rfl, rfl, rfl, rfl, by decide, by decide⟩
instance : UnderIs Try.prog 85 (.slice 91) := ⟨Try.underlying85⟩
instance : SizeIs Try.prog 85 1 := ⟨by kernel_rfl⟩
instance : AggIs Try.prog 85 false := ⟨by kernel_rfl⟩
instance : ZeroIs Try.prog 85 ((Value.slice none 0 0)) := ⟨by kernel_rfl⟩
instance : BytesIs Try.prog 85 1 24 := ⟨Try.t85, _, by kernel_rfl, rfl, rfl, rfl, rfl, by decide, by decide⟩
instance : SizeIs Try.prog 87 1 := ⟨by kernel_rfl⟩
instance : AggIs Try.prog 87 false := ⟨by kernel_rfl⟩
instance : ZeroIs Try.prog 87 (Value.nilFunc) := ⟨by kernel_rfl⟩
instance : BytesIs Try.prog 87 1 8 := ⟨Try.t87, _, by kernel_rfl, rfl, rfl, rfl, rfl, by decide, by decide⟩
instance : SizeIs Try.prog 89 1 := ⟨by kernel_rfl⟩
instance : AggIs Try.prog 89 false := ⟨by kernel_rfl⟩
instance : ZeroIs Try.prog 89 (Value.nilFunc) := ⟨by kernel_rfl⟩
instance : BytesIs Try.prog 89 1 8 := ⟨Try.t89, _, by kernel_rfl, rfl, rfl, rfl, rfl, by decide, by decide⟩
instance : SizeIs Try.prog 90 1 := ⟨by kernel_rfl⟩
instance : AggIs Try.prog 90 false := ⟨by kernel_rfl⟩
instance : ZeroIs Try.prog 90 (Value.nilFunc) := ⟨by kernel_rfl⟩
instance : BytesIs Try.prog 90 1 8 := ⟨Try.t90, _, by kernel_rfl, rfl, rfl, rfl, rfl, by decide, by decide⟩
instance : UnderIs Try.prog 91 (.slice 97) := ⟨Try.underlying91⟩
instance : SizeIs Try.prog 91 1 := ⟨by kernel_rfl⟩
instance : AggIs Try.prog 91 false := ⟨by kernel_rfl⟩
instance : ZeroIs Try.prog 91 ((Value.slice none 0 0)) := ⟨by kernel_rfl⟩
instance : BytesIs Try.prog 91 1 24 := ⟨Try.t91, _, by kernel_rfl, rfl, rfl, rfl, rfl, by decide, by decide⟩
instance : SizeIs Try.prog 93 1 := ⟨by kernel_rfl⟩
instance : AggIs Try.prog 93 false := ⟨by kernel_rfl⟩
instance : ZeroIs Try.prog 93 (Value.nilFunc) := ⟨by kernel_rfl⟩
instance : BytesIs Try.prog 93 1 8 := ⟨Try.t93, _, by kernel_rfl, rfl, rfl, rfl, rfl, by decide, by decide⟩
instance : SizeIs Try.prog 95 1 := ⟨by kernel_rfl⟩
instance : AggIs Try.prog 95 false := ⟨by kernel_rfl⟩
instance : ZeroIs Try.prog 95 (Value.nilFunc) := ⟨by kernel_rfl⟩
instance : BytesIs Try.prog 95 1 8 := ⟨Try.t95, _, by kernel_rfl, rfl, rfl, rfl, rfl, by decide, by decide⟩
instance : FieldIs Try.prog 96 0 0 52 2 := ⟨_, _, Try.underlying96, rfl, rfl, rfl, by kernel_rfl, by decide⟩
instance : FieldIs Try.prog 96 1 2 3 1 := ⟨_, _, Try.underlying96, rfl, rfl, rfl, by kernel_rfl, by decide⟩
instance : StructOk Try.prog 96 := ⟨_, Try.underlying96, by kernel_rfl⟩
instance : SizeIs Try.prog 96 3 := ⟨by kernel_rfl⟩
instance : AggIs Try.prog 96 true := ⟨by kernel_rfl⟩
instance : ZeroIs Try.prog 96 ((Value.agg #[Value.complex FloatKind.f64 0 0, Value.complex FloatKind.f64 0 0, Value.int IntKind.i64 0])) := ⟨by kernel_rfl⟩
instance : BytesIs Try.prog 96 3 40 := ⟨Try.t96, _, by kernel_rfl, rfl, rfl, rfl, rfl, by decide, by decide⟩
instance : FieldIs Try.prog 97 0 0 52 2 := ⟨_, _, Try.underlying97, rfl, rfl, rfl, by kernel_rfl, by decide⟩
instance : FieldIs Try.prog 97 1 2 3 1 := ⟨_, _, Try.underlying97, rfl, rfl, rfl, by kernel_rfl, by decide⟩
instance : StructOk Try.prog 97 := ⟨_, Try.underlying97, by kernel_rfl⟩
instance : SizeIs Try.prog 97 3 := ⟨by kernel_rfl⟩
instance : AggIs Try.prog 97 true := ⟨by kernel_rfl⟩
instance : ZeroIs Try.prog 97 ((Value.agg #[Value.complex FloatKind.f64 0 0, Value.complex FloatKind.f64 0 0, Value.int IntKind.i64 0])) := ⟨by kernel_rfl⟩
instance : BytesIs Try.prog 97 3 40 := ⟨Try.t97, _, by kernel_rfl, rfl, rfl, rfl, rfl, by decide, by decide⟩
instance : SizeIs Try.prog 98 1 := ⟨by kernel_rfl⟩
instance : AggIs Try.prog 98 false := ⟨by kernel_rfl⟩
instance : ZeroIs Try.prog 98 (Value.nilFunc) := ⟨by kernel_rfl⟩
instance : BytesIs Try.prog 98 1 8 := ⟨Try.t98, _, by kernel_rfl, rfl, rfl, rfl, rfl, by decide, by decide⟩
instance : UnderIs Try.prog 99 (.slice 24) := ⟨Try.underlying99⟩
instance : SizeIs Try.prog 99 1 := ⟨by kernel_rfl⟩
instance : AggIs Try.prog 99 false := ⟨by kernel_rfl⟩
instance : ZeroIs Try.prog 99 ((Value.slice none 0 0)) := ⟨by kernel_rfl⟩
instance : BytesIs Try.prog 99 1 24 := ⟨Try.t99, _, by kernel_rfl, rfl, rfl, rfl, rfl, by decide, by decide⟩
instance : SizeIs Try.prog 100 1 := ⟨by kernel_rfl⟩
instance : AggIs Try.prog 100 false := ⟨by kernel_rfl⟩
instance : ZeroIs Try.prog 100 (Value.nilFunc) := ⟨by kernel_rfl⟩
instance : BytesIs Try.prog 100 1 8 := ⟨Try.t100, _, by kernel_rfl, rfl, rfl, rfl, rfl, by decide, by decide⟩
instance : SizeIs Try.prog 101 1 := ⟨by kernel_rfl⟩
instance : AggIs Try.prog 101 false := ⟨by kernel_rfl⟩
instance : ZeroIs Try.prog 101 (Value.nilFunc) := ⟨by kernel_rfl⟩
instance : BytesIs Try.prog 101 1 8 := ⟨Try.t101, _, by kernel_rfl, rfl, rfl, rfl, rfl, by decide, by decide⟩
instance : SizeIs Try.prog 103 1 := ⟨by kernel_rfl⟩
instance : AggIs Try.prog 103 false := ⟨by kernel_rfl⟩
instance : ZeroIs Try.prog 103 (Value.nilFunc) := ⟨by kernel_rfl⟩
instance : BytesIs Try.prog 103 1 8 := ⟨Try.t103, _, by kernel_rfl, rfl, rfl, rfl, rfl, by decide, by decide⟩
instance : SizeIs Try.prog 104 1 := ⟨by kernel_rfl⟩
instance : AggIs Try.prog 104 false := ⟨by kernel_rfl⟩
instance : ZeroIs Try.prog 104 (Value.nilFunc) := ⟨by kernel_rfl⟩
instance : BytesIs Try.prog 104 1 8 := ⟨Try.t104, _, by kernel_rfl, rfl, rfl, rfl, rfl, by decide, by decide⟩
instance : SizeIs Try.prog 105 1 := ⟨by kernel_rfl⟩
instance : AggIs Try.prog 105 false := ⟨by kernel_rfl⟩
instance : ZeroIs Try.prog 105 (Value.nilFunc) := ⟨by kernel_rfl⟩
instance : BytesIs Try.prog 105 1 8 := ⟨Try.t105, _, by kernel_rfl, rfl, rfl, rfl, rfl, by decide, by decide⟩
instance : SizeIs Try.prog 106 1 := ⟨by kernel_rfl⟩
instance : AggIs Try.prog 106 false := ⟨by kernel_rfl⟩
instance : ZeroIs Try.prog 106 (Value.nilFunc) := ⟨by kernel_rfl⟩
instance : BytesIs Try.prog 106 1 8 := ⟨Try.t106, _, by kernel_rfl, rfl, rfl, rfl, rfl, by decide, by decide⟩
instance : SizeIs Try.prog 107 1 := ⟨by kernel_rfl⟩
instance : AggIs Try.prog 107 false := ⟨by kernel_rfl⟩
instance : ZeroIs Try.prog 107 (Value.nilFunc) := ⟨by kernel_rfl⟩
instance : BytesIs Try.prog 107 1 8 := ⟨Try.t107, _, by kernel_rfl, rfl, rfl, rfl, rfl, by decide, by decide⟩
instance : UnderIs Try.prog 108 (.slice 112) := ⟨Try.underlying108⟩
instance : SizeIs Try.prog 108 1 := ⟨by kernel_rfl⟩
instance : AggIs Try.prog 108 false := ⟨by kernel_rfl⟩
instance : ZeroIs Try.prog 108 ((Value.slice none 0 0)) := ⟨by kernel_rfl⟩
instance : BytesIs Try.prog 108 1 24 := ⟨Try.t108, _, by kernel_rfl, rfl, rfl, rfl, rfl, by decide, by decide⟩
instance : SizeIs Try.prog 110 1 := ⟨by kernel_rfl⟩
instance : AggIs Try.prog 110 false := ⟨by kernel_rfl⟩
instance : ZeroIs Try.prog 110 (Value.nilFunc) := ⟨by kernel_rfl⟩
instance : BytesIs Try.prog 110 1 8 := ⟨Try.t110, _, by kernel_rfl, rfl, rfl, rfl, rfl, by decide, by decide⟩
instance : FieldIs Try.prog 111 0 0 3 1 := ⟨_, _, Try.underlying111, rfl, rfl, rfl, by kernel_rfl, by decide⟩
instance : FieldIs Try.prog 111 1 1 3 1 := ⟨_, _, Try.underlying111, rfl, rfl, rfl, by kernel_rfl, by decide⟩
instance : StructOk Try.prog 111 := ⟨_, Try.underlying111, by kernel_rfl⟩
instance : SizeIs Try.prog 111 2 := ⟨by kernel_rfl⟩
instance : AggIs Try.prog 111 true := ⟨by kernel_rfl⟩
instance : ZeroIs Try.prog 111 ((Value.agg #[Value.int IntKind.i64 0, Value.int IntKind.i64 0])) := ⟨by kernel_rfl⟩
instance : BytesIs Try.prog 111 2 16 := ⟨Try.t111, _, by kernel_rfl, rfl, rfl, rfl, rfl, by decide, by decide⟩
instance : FieldIs Try.prog 112 0 0 3 1 := ⟨_, _, Try.underlying112, rfl, rfl, rfl, by kernel_rfl, by decide⟩
instance : FieldIs Try.prog 112 1 1 3 1 := ⟨_, _, Try.underlying112, rfl, rfl, rfl, by kernel_rfl, by decide⟩
instance : StructOk Try.prog 112 := ⟨_, Try.underlying112, by kernel_rfl⟩
instance : SizeIs Try.prog 112 2 := ⟨by kernel_rfl⟩
instance : AggIs Try.prog 112 true := ⟨by kernel_rfl⟩
instance : ZeroIs Try.prog 112 ((Value.agg #[Value.int IntKind.i64 0, Value.int IntKind.i64 0])) := ⟨by kernel_rfl⟩
instance : BytesIs Try.prog 112 2 16 := ⟨Try.t112, _, by kernel_rfl, rfl, rfl, rfl, rfl, by decide, by decide⟩
instance : SizeIs Try.prog 113 1 := ⟨by kernel_rfl⟩
instance : AggIs Try.prog 113 false := ⟨by kernel_rfl⟩
instance : ZeroIs Try.prog 113 (Value.nilFunc) := ⟨by kernel_rfl⟩
instance : BytesIs Try.prog 113 1 8 := ⟨Try.t113, _, by kernel_rfl, rfl, rfl, rfl, rfl, by decide, by decide⟩
instance : SizeIs Try.prog 114 1 := ⟨by kernel_rfl⟩
instance : AggIs Try.prog 114 false := ⟨by kernel_rfl⟩
instance : ZeroIs Try.prog 114 (Value.nilFunc) := ⟨by kernel_rfl⟩
instance : BytesIs Try.prog 114 1 8 := ⟨Try.t114, _, by kernel_rfl, rfl, rfl, rfl, rfl, by decide, by decide⟩
instance : SizeIs Try.prog 115 1 := ⟨by kernel_rfl⟩
instance : AggIs Try.prog 115 false := ⟨by kernel_rfl⟩
instance : ZeroIs Try.prog 115 (Value.nilFunc) := ⟨by kernel_rfl⟩
instance : BytesIs Try.prog 115 1 8 := ⟨Try.t115, _, by kernel_rfl, rfl, rfl, rfl, rfl, by decide, by decide⟩
instance : SizeIs Try.prog 116 1 := ⟨by kernel_rfl⟩
instance : AggIs Try.prog 116 false := ⟨by kernel_rfl⟩
instance : ZeroIs Try.prog 116 (Value.nilFunc) := ⟨by kernel_rfl⟩
instance : BytesIs Try.prog 116 1 8 := ⟨Try.t116, _, by kernel_rfl, rfl, rfl, rfl, rfl, by decide, by decide⟩
instance : SizeIs Try.prog 117 1 := ⟨by kernel_rfl⟩
instance : AggIs Try.prog 117 false := ⟨by kernel_rfl⟩
instance : ZeroIs Try.prog 117 (Value.nilFunc) := ⟨by kernel_rfl⟩
instance : BytesIs Try.prog 117 1 8 := ⟨Try.t117, _, by kernel_rfl, rfl, rfl, rfl, rfl, by decide, by decide⟩
instance : SizeIs Try.prog 118 1 := ⟨by kernel_rfl⟩
instance : AggIs Try.prog 118 false := ⟨by kernel_rfl⟩
instance : ZeroIs Try.prog 118 (Value.nilFunc) := ⟨by kernel_rfl⟩
instance : BytesIs Try.prog 118 1 8 := ⟨Try.t118, _, by kernel_rfl, rfl, rfl, rfl, rfl, by decide, by decide⟩
instance : SizeIs Try.prog 119 1 := ⟨by kernel_rfl⟩
instance : AggIs Try.prog 119 false := ⟨by kernel_rfl⟩
instance : ZeroIs Try.prog 119 (Value.nilFunc) := ⟨by kernel_rfl⟩
instance : BytesIs Try.prog 119 1 8 := ⟨Try.t119, _, by kernel_rfl, rfl, rfl, rfl, rfl, by decide, by decide⟩
instance : SizeIs Try.prog 120 1 := ⟨by kernel_rfl⟩
instance : AggIs Try.prog 120 false := ⟨by kernel_rfl⟩
instance : ZeroIs Try.prog 120 (Value.nilFunc) := ⟨by kernel_rfl⟩
instance : BytesIs Try.prog 120 1 8 := ⟨Try.t120, _, by kernel_rfl, rfl, rfl, rfl, rfl, by decide, by decide⟩
instance : SizeIs Try.prog 121 1 := ⟨by kernel_rfl⟩
instance : AggIs Try.prog 121 false := ⟨by kernel_rfl⟩
instance : ZeroIs Try.prog 121 (Value.nilFunc) := ⟨by kernel_rfl⟩
instance : BytesIs Try.prog 121 1 8 := ⟨Try.t121, _, by kernel_rfl, rfl, rfl, rfl, rfl, by decide, by decide⟩
instance : SizeIs Try.prog 122 1 := ⟨by kernel_rfl⟩
instance : AggIs Try.prog 122 false := ⟨by kernel_rfl⟩
instance : ZeroIs Try.prog 122 (Value.nilFunc) := ⟨by kernel_rfl⟩
instance : BytesIs Try.prog 122 1 8 := ⟨Try.t122, _, by kernel_rfl, rfl, rfl, rfl, rfl, by decide, by decide⟩
instance : SizeIs Try.prog 123 1 := ⟨by kernel_rfl⟩
instance : AggIs Try.prog 123 false := ⟨by kernel_rfl⟩
instance : ZeroIs Try.prog 123 (Value.nilFunc) := ⟨by kernel_rfl⟩
instance : BytesIs Try.prog 123 1 8 := ⟨Try.t123, _, by kernel_rfl, rfl, rfl, rfl, rfl, by decide, by decide⟩
instance : SizeIs Try.prog 124 1 := ⟨by kernel_rfl⟩
instance : AggIs Try.prog 124 false := ⟨by kernel_rfl⟩
instance : ZeroIs Try.prog 124 (Value.nilFunc) := ⟨by kernel_rfl⟩
instance : BytesIs Try.prog 124 1 8 := ⟨Try.t124, _, by kernel_rfl, rfl, rfl, rfl, rfl, by decide, by decide⟩
instance : SizeIs Try.prog 125 1 := ⟨by kernel_rfl⟩
instance : AggIs Try.prog 125 false := ⟨by kernel_rfl⟩
instance : ZeroIs Try.prog 125 (Value.nilFunc) := ⟨by kernel_rfl⟩
instance : BytesIs Try.prog 125 1 8 := ⟨Try.t125, _, by kernel_rfl, rfl, rfl, rfl, rfl, by decide, by decide⟩
instance : SizeIs Try.prog 126 1 := ⟨by kernel_rfl⟩
instance : AggIs Try.prog 126 false := ⟨by kernel_rfl⟩
instance : ZeroIs Try.prog 126 (Value.nilFunc) := ⟨by kernel_rfl⟩
instance : BytesIs Try.prog 126 1 8 := ⟨Try.t126, _, by kernel_rfl, rfl, rfl, rfl, rfl, by decide, by decide⟩
instance : UnderIs Try.prog 127 (.slice 70) := ⟨Try.underlying127⟩
instance : SizeIs Try.prog 127 1 := ⟨by kernel_rfl⟩
instance : AggIs Try.prog 127 false := ⟨by kernel_rfl⟩
instance : ZeroIs Try.prog 127 ((Value.slice none 0 0)) := ⟨by kernel_rfl⟩
instance : BytesIs Try.prog 127 1 24 := ⟨Try.t127, _, by kernel_rfl, rfl, rfl, rfl, rfl, by decide, by decide⟩
instance : SizeIs Try.prog 129 1 := ⟨by kernel_rfl⟩
instance : AggIs Try.prog 129 false := ⟨by kernel_rfl⟩
instance : ZeroIs Try.prog 129 (Value.nilFunc) := ⟨by kernel_rfl⟩
instance : BytesIs Try.prog 129 1 8 := ⟨Try.t129, _, by kernel_rfl, rfl, rfl, rfl, rfl, by decide, by decide⟩
instance : SizeIs Try.prog 130 1 := ⟨by kernel_rfl⟩
instance : AggIs Try.prog 130 false := ⟨by kernel_rfl⟩
instance : ZeroIs Try.prog 130 (Value.nilFunc) := ⟨by kernel_rfl⟩
instance : BytesIs Try.prog 130 1 8 := ⟨Try.t130, _, by kernel_rfl, rfl, rfl, rfl, rfl, by decide, by decide⟩
instance : SizeIs Try.prog 131 1 := ⟨by kernel_rfl⟩
instance : AggIs Try.prog 131 false := ⟨by kernel_rfl⟩
instance : ZeroIs Try.prog 131 (Value.nilFunc) := ⟨by kernel_rfl⟩
instance : BytesIs Try.prog 131 1 8 := ⟨Try.t131, _, by kernel_rfl, rfl, rfl, rfl, rfl, by decide, by decide⟩
instance : SizeIs Try.prog 132 1 := ⟨by kernel_rfl⟩
instance : AggIs Try.prog 132 false := ⟨by kernel_rfl⟩
instance : ZeroIs Try.prog 132 (Value.nilFunc) := ⟨by kernel_rfl⟩
instance : BytesIs Try.prog 132 1 8 := ⟨Try.t132, _, by kernel_rfl, rfl, rfl, rfl, rfl, by decide, by decide⟩
instance : UnderIs Try.prog 133 (.slice 9) := ⟨Try.underlying133⟩
instance : SizeIs Try.prog 133 1 := ⟨by kernel_rfl⟩
instance : AggIs Try.prog 133 false := ⟨by kernel_rfl⟩
instance : ZeroIs Try.prog 133 ((Value.slice none 0 0)) := ⟨by kernel_rfl⟩
instance : BytesIs Try.prog 133 1 24 := ⟨Try.t133, _, by kernel_rfl, rfl, rfl, rfl, rfl, by decide, by decide⟩
instance : SizeIs Try.prog 134 1 := ⟨by kernel_rfl⟩
instance : AggIs Try.prog 134 false := ⟨by kernel_rfl⟩
instance : ZeroIs Try.prog 134 (Value.nilFunc) := ⟨by kernel_rfl⟩
instance : BytesIs Try.prog 134 1 8 := ⟨Try.t134, _, by kernel_rfl, rfl, rfl, rfl, rfl, by decide, by decide⟩
instance : SizeIs Try.prog 135 1 := ⟨by kernel_rfl⟩
instance : AggIs Try.prog 135 false := ⟨by kernel_rfl⟩
instance : ZeroIs Try.prog 135 (Value.nilFunc) := ⟨by kernel_rfl⟩
instance : BytesIs Try.prog 135 1 8 := ⟨Try.t135, _, by kernel_rfl, rfl, rfl, rfl, rfl, by decide, by decide⟩
instance : FieldIs Try.prog 136 0 0 3 1 := ⟨_, _, Try.underlying136, rfl, rfl, rfl, by kernel_rfl, by decide⟩
instance : FieldIs Try.prog 136 1 1 3 1 := ⟨_, _, Try.underlying136, rfl, rfl, rfl, by kernel_rfl, by decide⟩
instance : FieldIs Try.prog 136 2 2 4 1 := ⟨_, _, Try.underlying136, rfl, rfl, rfl, by kernel_rfl, by decide⟩
instance : FieldIs Try.prog 136 3 3 4 1 := ⟨_, _, Try.underlying136, rfl, rfl, rfl, by kernel_rfl, by decide⟩
instance : FieldIs Try.prog 136 4 4 9 1 := ⟨_, _, Try.underlying136, rfl, rfl, rfl, by kernel_rfl, by decide⟩
instance : FieldIs Try.prog 136 5 5 135 1 := ⟨_, _, Try.underlying136, rfl, rfl, rfl, by kernel_rfl, by decide⟩
instance : StructOk Try.prog 136 := ⟨_, Try.underlying136, by kernel_rfl⟩
instance : SizeIs Try.prog 136 6 := ⟨by kernel_rfl⟩
instance : AggIs Try.prog 136 true := ⟨by kernel_rfl⟩
instance : ZeroIs Try.prog 136 ((Value.agg #[Value.int IntKind.i64 0, Value.int IntKind.i64 0, Value.bool false, Value.bool false, Value.string ByteArray.empty, Value.nilFunc])) := ⟨by kernel_rfl⟩
instance : BytesIs Try.prog 136 6 48 := ⟨Try.t136, _, by kernel_rfl, rfl, rfl, rfl, rfl, by decide, by decide⟩
instance : FieldIs Try.prog 137 0 0 3 1 := ⟨_, _, Try.underlying137, rfl, rfl, rfl, by kernel_rfl, by decide⟩
instance : FieldIs Try.prog 137 1 1 3 1 := ⟨_, _, Try.underlying137, rfl, rfl, rfl, by kernel_rfl, by decide⟩
instance : FieldIs Try.prog 137 2 2 4 1 := ⟨_, _, Try.underlying137, rfl, rfl, rfl, by kernel_rfl, by decide⟩
instance : FieldIs Try.prog 137 3 3 4 1 := ⟨_, _, Try.underlying137, rfl, rfl, rfl, by kernel_rfl, by decide⟩
instance : FieldIs Try.prog 137 4 4 9 1 := ⟨_, _, Try.underlying137, rfl, rfl, rfl, by kernel_rfl, by decide⟩
instance : FieldIs Try.prog 137 5 5 135 1 := ⟨_, _, Try.underlying137, rfl, rfl, rfl, by kernel_rfl, by decide⟩
instance : StructOk Try.prog 137 := ⟨_, Try.underlying137, by kernel_rfl⟩
instance : SizeIs Try.prog 137 6 := ⟨by kernel_rfl⟩
instance : AggIs Try.prog 137 true := ⟨by kernel_rfl⟩
instance : ZeroIs Try.prog 137 ((Value.agg #[Value.int IntKind.i64 0, Value.int IntKind.i64 0, Value.bool false, Value.bool false, Value.string ByteArray.empty, Value.nilFunc])) := ⟨by kernel_rfl⟩
instance : BytesIs Try.prog 137 6 48 := ⟨Try.t137, _, by kernel_rfl, rfl, rfl, rfl, rfl, by decide, by decide⟩
instance : UnderIs Try.prog 138 (.map 9 137) := ⟨Try.underlying138⟩
instance : SizeIs Try.prog 138 1 := ⟨by kernel_rfl⟩
instance : AggIs Try.prog 138 false := ⟨by kernel_rfl⟩
instance : ZeroIs Try.prog 138 ((Value.map none)) := ⟨by kernel_rfl⟩
instance : BytesIs Try.prog 138 1 8 := ⟨Try.t138, _, by kernel_rfl, rfl, rfl, rfl, rfl, by decide, by decide⟩
instance : SizeIs Try.prog 139 1 := ⟨by kernel_rfl⟩
instance : AggIs Try.prog 139 false := ⟨by kernel_rfl⟩
instance : ZeroIs Try.prog 139 (Value.nilFunc) := ⟨by kernel_rfl⟩
instance : BytesIs Try.prog 139 1 8 := ⟨Try.t139, _, by kernel_rfl, rfl, rfl, rfl, rfl, by decide, by decide⟩
instance : UnderIs Try.prog 141 (.slice 143) := ⟨Try.underlying141⟩
instance : SizeIs Try.prog 141 1 := ⟨by kernel_rfl⟩
instance : AggIs Try.prog 141 false := ⟨by kernel_rfl⟩
instance : ZeroIs Try.prog 141 ((Value.slice none 0 0)) := ⟨by kernel_rfl⟩
instance : BytesIs Try.prog 141 1 24 := ⟨Try.t141, _, by kernel_rfl, rfl, rfl, rfl, rfl, by decide, by decide⟩
instance : FieldIs Try.prog 142 0 0 3 1 := ⟨_, _, Try.underlying142, rfl, rfl, rfl, by kernel_rfl, by decide⟩
instance : FieldIs Try.prog 142 1 1 3 1 := ⟨_, _, Try.underlying142, rfl, rfl, rfl, by kernel_rfl, by decide⟩
instance : FieldIs Try.prog 142 2 2 3 1 := ⟨_, _, Try.underlying142, rfl, rfl, rfl, by kernel_rfl, by decide⟩
instance : StructOk Try.prog 142 := ⟨_, Try.underlying142, by kernel_rfl⟩
instance : SizeIs Try.prog 142 3 := ⟨by kernel_rfl⟩
instance : AggIs Try.prog 142 true := ⟨by kernel_rfl⟩
instance : ZeroIs Try.prog 142 ((Value.agg #[Value.int IntKind.i64 0, Value.int IntKind.i64 0, Value.int IntKind.i64 0])) := ⟨by kernel_rfl⟩
instance : BytesIs Try.prog 142 3 24 := ⟨Try.t142, _, by kernel_rfl, rfl, rfl, rfl, rfl, by decide, by decide⟩
instance : FieldIs Try.prog 143 0 0 3 1 := ⟨_, _, Try.underlying143, rfl, rfl, rfl, by kernel_rfl, by decide⟩
instance : FieldIs Try.prog 143 1 1 3 1 := ⟨_, _, Try.underlying143, rfl, rfl, rfl, by kernel_rfl, by decide⟩
instance : FieldIs Try.prog 143 2 2 3 1 := ⟨_, _, Try.underlying143, rfl, rfl, rfl, by kernel_rfl, by decide⟩
instance : StructOk Try.prog 143 := ⟨_, Try.underlying143, by kernel_rfl⟩
instance : SizeIs Try.prog 143 3 := ⟨by kernel_rfl⟩
instance : AggIs Try.prog 143 true := ⟨by kernel_rfl⟩
instance : ZeroIs Try.prog 143 ((Value.agg #[Value.int IntKind.i64 0, Value.int IntKind.i64 0, Value.int IntKind.i64 0])) := ⟨by kernel_rfl⟩
instance : BytesIs Try.prog 143 3 24 := ⟨Try.t143, _, by kernel_rfl, rfl, rfl, rfl, rfl, by decide, by decide⟩
instance : SizeIs Try.prog 144 1 := ⟨by kernel_rfl⟩
instance : AggIs Try.prog 144 false := ⟨by kernel_rfl⟩
instance : ZeroIs Try.prog 144 (Value.nilFunc) := ⟨by kernel_rfl⟩
instance : BytesIs Try.prog 144 1 8 := ⟨Try.t144, _, by kernel_rfl, rfl, rfl, rfl, rfl, by decide, by decide⟩
instance : SizeIs Try.prog 145 1 := ⟨by kernel_rfl⟩
instance : AggIs Try.prog 145 false := ⟨by kernel_rfl⟩
instance : ZeroIs Try.prog 145 (Value.nilFunc) := ⟨by kernel_rfl⟩
instance : BytesIs Try.prog 145 1 8 := ⟨Try.t145, _, by kernel_rfl, rfl, rfl, rfl, rfl, by decide, by decide⟩
instance : SizeIs Try.prog 146 1 := ⟨by kernel_rfl⟩
instance : AggIs Try.prog 146 false := ⟨by kernel_rfl⟩
instance : ZeroIs Try.prog 146 (Value.nilFunc) := ⟨by kernel_rfl⟩
instance : BytesIs Try.prog 146 1 8 := ⟨Try.t146, _, by kernel_rfl, rfl, rfl, rfl, rfl, by decide, by decide⟩
instance : SizeIs Try.prog 147 1 := ⟨by kernel_rfl⟩
instance : AggIs Try.prog 147 false := ⟨by kernel_rfl⟩
instance : ZeroIs Try.prog 147 (Value.nilFunc) := ⟨by kernel_rfl⟩
instance : BytesIs Try.prog 147 1 8 := ⟨Try.t147, _, by kernel_rfl, rfl, rfl, rfl, rfl, by decide, by decide⟩
instance : UnderIs Try.prog 148 (.slice 22) := ⟨Try.underlying148⟩
instance : SizeIs Try.prog 148 1 := ⟨by kernel_rfl⟩
instance : AggIs Try.prog 148 false := ⟨by kernel_rfl⟩
instance : ZeroIs Try.prog 148 ((Value.slice none 0 0)) := ⟨by kernel_rfl⟩
instance : BytesIs Try.prog 148 1 24 := ⟨Try.t148, _, by kernel_rfl, rfl, rfl, rfl, rfl, by decide, by decide⟩
instance : SizeIs Try.prog 149 1 := ⟨by kernel_rfl⟩
instance : AggIs Try.prog 149 false := ⟨by kernel_rfl⟩
instance : ZeroIs Try.prog 149 (Value.nilFunc) := ⟨by kernel_rfl⟩
instance : BytesIs Try.prog 149 1 8 := ⟨Try.t149, _, by kernel_rfl, rfl, rfl, rfl, rfl, by decide, by decide⟩
instance : SizeIs Try.prog 150 1 := ⟨by kernel_rfl⟩
instance : AggIs Try.prog 150 false := ⟨by kernel_rfl⟩
instance : ZeroIs Try.prog 150 (Value.nilFunc) := ⟨by kernel_rfl⟩
instance : BytesIs Try.prog 150 1 8 := ⟨Try.t150, _, by kernel_rfl, rfl, rfl, rfl, rfl, by decide, by decide⟩
instance : SizeIs Try.prog 151 1 := ⟨by kernel_rfl⟩
instance : AggIs Try.prog 151 false := ⟨by kernel_rfl⟩
instance : ZeroIs Try.prog 151 (Value.nilFunc) := ⟨by kernel_rfl⟩
instance : BytesIs Try.prog 151 1 8 := ⟨Try.t151, _, by kernel_rfl, rfl, rfl, rfl, rfl, by decide, by decide⟩
instance : SizeIs Try.prog 152 1 := ⟨by kernel_rfl⟩
instance : AggIs Try.prog 152 false := ⟨by kernel_rfl⟩
instance : ZeroIs Try.prog 152 (Value.nilFunc) := ⟨by kernel_rfl⟩
instance : BytesIs Try.prog 152 1 8 := ⟨Try.t152, _, by kernel_rfl, rfl, rfl, rfl, rfl, by decide, by decide⟩
instance : SizeIs Try.prog 153 1 := ⟨by kernel_rfl⟩
instance : AggIs Try.prog 153 false := ⟨by kernel_rfl⟩
instance : ZeroIs Try.prog 153 (Value.nilFunc) := ⟨by kernel_rfl⟩
instance : BytesIs Try.prog 153 1 8 := ⟨Try.t153, _, by kernel_rfl, rfl, rfl, rfl, rfl, by decide, by decide⟩
instance : SizeIs Try.prog 154 1 := ⟨by kernel_rfl⟩
instance : AggIs Try.prog 154 false := ⟨by kernel_rfl⟩
instance : ZeroIs Try.prog 154 (Value.nilFunc) := ⟨by kernel_rfl⟩
instance : BytesIs Try.prog 154 1 8 := ⟨Try.t154, _, by kernel_rfl, rfl, rfl, rfl, rfl, by decide, by decide⟩
instance : SizeIs Try.prog 155 1 := ⟨by kernel_rfl⟩
instance : AggIs Try.prog 155 false := ⟨by kernel_rfl⟩
instance : ZeroIs Try.prog 155 (Value.nilFunc) := ⟨by kernel_rfl⟩
instance : BytesIs Try.prog 155 1 8 := ⟨Try.t155, _, by kernel_rfl, rfl, rfl, rfl, rfl, by decide, by decide⟩
instance : SizeIs Try.prog 156 1 := ⟨by kernel_rfl⟩
instance : AggIs Try.prog 156 false := ⟨by kernel_rfl⟩
instance : ZeroIs Try.prog 156 (Value.nilFunc) := ⟨by kernel_rfl⟩
instance : BytesIs Try.prog 156 1 8 := ⟨Try.t156, _, by kernel_rfl, rfl, rfl, rfl, rfl, by decide, by decide⟩
instance : SizeIs Try.prog 157 1 := ⟨by kernel_rfl⟩
instance : AggIs Try.prog 157 false := ⟨by kernel_rfl⟩
instance : ZeroIs Try.prog 157 (Value.nilFunc) := ⟨by kernel_rfl⟩
instance : BytesIs Try.prog 157 1 8 := ⟨Try.t157, _, by kernel_rfl, rfl, rfl, rfl, rfl, by decide, by decide⟩
instance : SizeIs Try.prog 158 1 := ⟨by kernel_rfl⟩
instance : AggIs Try.prog 158 false := ⟨by kernel_rfl⟩
instance : ZeroIs Try.prog 158 (Value.nilFunc) := ⟨by kernel_rfl⟩
instance : BytesIs Try.prog 158 1 8 := ⟨Try.t158, _, by kernel_rfl, rfl, rfl, rfl, rfl, by decide, by decide⟩
instance : SizeIs Try.prog 159 1 := ⟨by kernel_rfl⟩
instance : AggIs Try.prog 159 false := ⟨by kernel_rfl⟩
instance : ZeroIs Try.prog 159 (Value.nilFunc) := ⟨by kernel_rfl⟩
instance : BytesIs Try.prog 159 1 8 := ⟨Try.t159, _, by kernel_rfl, rfl, rfl, rfl, rfl, by decide, by decide⟩
instance : SizeIs Try.prog 161 1 := ⟨by kernel_rfl⟩
instance : AggIs Try.prog 161 false := ⟨by kernel_rfl⟩
instance : ZeroIs Try.prog 161 (Value.nilFunc) := ⟨by kernel_rfl⟩
instance : BytesIs Try.prog 161 1 8 := ⟨Try.t161, _, by kernel_rfl, rfl, rfl, rfl, rfl, by decide, by decide⟩
instance : SizeIs Try.prog 162 1 := ⟨by kernel_rfl⟩
instance : AggIs Try.prog 162 false := ⟨by kernel_rfl⟩
instance : ZeroIs Try.prog 162 (Value.nilFunc) := ⟨by kernel_rfl⟩
instance : BytesIs Try.prog 162 1 8 := ⟨Try.t162, _, by kernel_rfl, rfl, rfl, rfl, rfl, by decide, by decide⟩
instance : SizeIs Try.prog 163 1 := ⟨by kernel_rfl⟩
instance : AggIs Try.prog 163 false := ⟨by kernel_rfl⟩
instance : ZeroIs Try.prog 163 (Value.nilFunc) := ⟨by kernel_rfl⟩
instance : BytesIs Try.prog 163 1 8 := ⟨Try.t163, _, by kernel_rfl, rfl, rfl, rfl, rfl, by decide, by decide⟩
instance : UnderIs Try.prog 164 (.int IntKind.u64) := ⟨Try.underlying164⟩
instance : SizeIs Try.prog 164 1 := ⟨by kernel_rfl⟩
instance : AggIs Try.prog 164 false := ⟨by kernel_rfl⟩
instance : ZeroIs Try.prog 164 ((Value.int IntKind.u64 0)) := ⟨by kernel_rfl⟩
instance : BytesIs Try.prog 164 1 8 := ⟨Try.t164, _, by kernel_rfl, rfl, rfl, rfl, rfl, by decide, by decide⟩
instance : SizeIs Try.prog 165 1 := ⟨by kernel_rfl⟩
instance : AggIs Try.prog 165 false := ⟨by kernel_rfl⟩
instance : ZeroIs Try.prog 165 (Value.nilFunc) := ⟨by kernel_rfl⟩
instance : BytesIs Try.prog 165 1 8 := ⟨Try.t165, _, by kernel_rfl, rfl, rfl, rfl, rfl, by decide, by decide⟩
instance : SizeIs Try.prog 166 1 := ⟨by kernel_rfl⟩
instance : AggIs Try.prog 166 false := ⟨by kernel_rfl⟩
instance : ZeroIs Try.prog 166 (Value.nilFunc) := ⟨by kernel_rfl⟩
instance : BytesIs Try.prog 166 1 8 := ⟨Try.t166, _, by kernel_rfl, rfl, rfl, rfl, rfl, by decide, by decide⟩
instance : SizeIs Try.prog 167 1 := ⟨by kernel_rfl⟩
instance : AggIs Try.prog 167 false := ⟨by kernel_rfl⟩
instance : ZeroIs Try.prog 167 (Value.nilFunc) := ⟨by kernel_rfl⟩
instance : BytesIs Try.prog 167 1 8 := ⟨Try.t167, _, by kernel_rfl, rfl, rfl, rfl, rfl, by decide, by decide⟩
instance : SizeIs Try.prog 168 1 := ⟨by kernel_rfl⟩
instance : AggIs Try.prog 168 false := ⟨by kernel_rfl⟩
instance : ZeroIs Try.prog 168 (Value.nilFunc) := ⟨by kernel_rfl⟩
instance : BytesIs Try.prog 168 1 8 := ⟨Try.t168, _, by kernel_rfl, rfl, rfl, rfl, rfl, by decide, by decide⟩
instance : SizeIs Try.prog 169 1 := ⟨by kernel_rfl⟩
instance : AggIs Try.prog 169 false := ⟨by kernel_rfl⟩
instance : ZeroIs Try.prog 169 (Value.nilFunc) := ⟨by kernel_rfl⟩
instance : BytesIs Try.prog 169 1 8 := ⟨Try.t169, _, by kernel_rfl, rfl, rfl, rfl, rfl, by decide, by decide⟩
instance : SizeIs Try.prog 170 1 := ⟨by kernel_rfl⟩
instance : AggIs Try.prog 170 false := ⟨by kernel_rfl⟩
instance : ZeroIs Try.prog 170 (Value.nilFunc) := ⟨by kernel_rfl⟩
instance : BytesIs Try.prog 170 1 8 := ⟨Try.t170, _, by kernel_rfl, rfl, rfl, rfl, rfl, by decide, by decide⟩
instance : SizeIs Try.prog 171 1 := ⟨by kernel_rfl⟩
instance : AggIs Try.prog 171 false := ⟨by kernel_rfl⟩
instance : ZeroIs Try.prog 171 (Value.nilFunc) := ⟨by kernel_rfl⟩
instance : BytesIs Try.prog 171 1 8 := ⟨Try.t171, _, by kernel_rfl, rfl, rfl, rfl, rfl, by decide, by decide⟩
instance : SizeIs Try.prog 173 1 := ⟨by kernel_rfl⟩
instance : AggIs Try.prog 173 false := ⟨by kernel_rfl⟩
instance : ZeroIs Try.prog 173 (Value.nilFunc) := ⟨by kernel_rfl⟩
instance : BytesIs Try.prog 173 1 8 := ⟨Try.t173, _, by kernel_rfl, rfl, rfl, rfl, rfl, by decide, by decide⟩
instance : SizeIs Try.prog 174 1 := ⟨by kernel_rfl⟩
instance : AggIs Try.prog 174 false := ⟨by kernel_rfl⟩
instance : ZeroIs Try.prog 174 (Value.nilFunc) := ⟨by kernel_rfl⟩
instance : BytesIs Try.prog 174 1 8 := ⟨Try.t174, _, by kernel_rfl, rfl, rfl, rfl, rfl, by decide, by decide⟩
instance : SizeIs Try.prog 175 1 := ⟨by kernel_rfl⟩
instance : AggIs Try.prog 175 false := ⟨by kernel_rfl⟩
instance : ZeroIs Try.prog 175 (Value.nilFunc) := ⟨by kernel_rfl⟩
instance : BytesIs Try.prog 175 1 8 := ⟨Try.t175, _, by kernel_rfl, rfl, rfl, rfl, rfl, by decide, by decide⟩
instance : SizeIs Try.prog 176 1 := ⟨by kernel_rfl⟩
instance : AggIs Try.prog 176 false := ⟨by kernel_rfl⟩
instance : ZeroIs Try.prog 176 (Value.nilFunc) := ⟨by kernel_rfl⟩
instance : BytesIs Try.prog 176 1 8 := ⟨Try.t176, _, by kernel_rfl, rfl, rfl, rfl, rfl, by decide, by decide⟩
instance : SizeIs Try.prog 178 1 := ⟨by kernel_rfl⟩
instance : AggIs Try.prog 178 false := ⟨by kernel_rfl⟩
instance : ZeroIs Try.prog 178 (Value.nilFunc) := ⟨by kernel_rfl⟩
instance : BytesIs Try.prog 178 1 8 := ⟨Try.t178, _, by kernel_rfl, rfl, rfl, rfl, rfl, by decide, by decide⟩
instance : SizeIs Try.prog 179 1 := ⟨by kernel_rfl⟩
instance : AggIs Try.prog 179 false := ⟨by kernel_rfl⟩
instance : ZeroIs Try.prog 179 (Value.nilFunc) := ⟨by kernel_rfl⟩
instance : BytesIs Try.prog 179 1 8 := ⟨Try.t179, _, by kernel_rfl, rfl, rfl, rfl, rfl, by decide, by decide⟩
instance : SizeIs Try.prog 181 1 := ⟨by kernel_rfl⟩
instance : AggIs Try.prog 181 false := ⟨by kernel_rfl⟩
instance : ZeroIs Try.prog 181 (Value.nilFunc) := ⟨by kernel_rfl⟩
instance : BytesIs Try.prog 181 1 8 := ⟨Try.t181, _, by kernel_rfl, rfl, rfl, rfl, rfl, by decide, by decide⟩
instance : SizeIs Try.prog 182 1 := ⟨by kernel_rfl⟩
instance : AggIs Try.prog 182 false := ⟨by kernel_rfl⟩
instance : ZeroIs Try.prog 182 (Value.nilFunc) := ⟨by kernel_rfl⟩
instance : BytesIs Try.prog 182 1 8 := ⟨Try.t182, _, by kernel_rfl, rfl, rfl, rfl, rfl, by decide, by decide⟩
instance : SizeIs Try.prog 183 1 := ⟨by kernel_rfl⟩
instance : AggIs Try.prog 183 false := ⟨by kernel_rfl⟩
instance : ZeroIs Try.prog 183 (Value.nilFunc) := ⟨by kernel_rfl⟩
instance : BytesIs Try.prog 183 1 8 := ⟨Try.t183, _, by kernel_rfl, rfl, rfl, rfl, rfl, by decide, by decide⟩
instance : SizeIs Try.prog 185 1 := ⟨by kernel_rfl⟩
instance : AggIs Try.prog 185 false := ⟨by kernel_rfl⟩
instance : ZeroIs Try.prog 185 (Value.nilFunc) := ⟨by kernel_rfl⟩
instance : BytesIs Try.prog 185 1 8 := ⟨Try.t185, _, by kernel_rfl, rfl, rfl, rfl, rfl, by decide, by decide⟩
instance : SizeIs Try.prog 186 1 := ⟨by kernel_rfl⟩
instance : AggIs Try.prog 186 false := ⟨by kernel_rfl⟩
instance : ZeroIs Try.prog 186 (Value.nilFunc) := ⟨by kernel_rfl⟩
instance : BytesIs Try.prog 186 1 8 := ⟨Try.t186, _, by kernel_rfl, rfl, rfl, rfl, rfl, by decide, by decide⟩
instance : SizeIs Try.prog 187 1 := ⟨by kernel_rfl⟩
instance : AggIs Try.prog 187 false := ⟨by kernel_rfl⟩
instance : ZeroIs Try.prog 187 (Value.nilFunc) := ⟨by kernel_rfl⟩
instance : BytesIs Try.prog 187 1 8 := ⟨Try.t187, _, by kernel_rfl, rfl, rfl, rfl, rfl, by decide, by decide⟩
instance : SizeIs Try.prog 189 1 := ⟨by kernel_rfl⟩
instance : AggIs Try.prog 189 false := ⟨by kernel_rfl⟩
instance : ZeroIs Try.prog 189 (Value.nilFunc) := ⟨by kernel_rfl⟩
instance : BytesIs Try.prog 189 1 8 := ⟨Try.t189, _, by kernel_rfl, rfl, rfl, rfl, rfl, by decide, by decide⟩
instance : SizeIs Try.prog 190 1 := ⟨by kernel_rfl⟩
instance : AggIs Try.prog 190 false := ⟨by kernel_rfl⟩
instance : ZeroIs Try.prog 190 (Value.nilFunc) := ⟨by kernel_rfl⟩
instance : BytesIs Try.prog 190 1 8 := ⟨Try.t190, _, by kernel_rfl, rfl, rfl, rfl, rfl, by decide, by decide⟩
instance : SizeIs Try.prog 191 1 := ⟨by kernel_rfl⟩
instance : AggIs Try.prog 191 false := ⟨by kernel_rfl⟩
instance : ZeroIs Try.prog 191 (Value.nilFunc) := ⟨by kernel_rfl⟩
instance : BytesIs Try.prog 191 1 8 := ⟨Try.t191, _, by kernel_rfl, rfl, rfl, rfl, rfl, by decide, by decide⟩
instance : SizeIs Try.prog 193 1 := ⟨by kernel_rfl⟩
instance : AggIs Try.prog 193 false := ⟨by kernel_rfl⟩
instance : ZeroIs Try.prog 193 (Value.nilFunc) := ⟨by kernel_rfl⟩
instance : BytesIs Try.prog 193 1 8 := ⟨Try.t193, _, by kernel_rfl, rfl, rfl, rfl, rfl, by decide, by decide⟩
instance : SizeIs Try.prog 194 1 := ⟨by kernel_rfl⟩
instance : AggIs Try.prog 194 false := ⟨by kernel_rfl⟩
instance : ZeroIs Try.prog 194 (Value.nilFunc) := ⟨by kernel_rfl⟩
instance : BytesIs Try.prog 194 1 8 := ⟨Try.t194, _, by kernel_rfl, rfl, rfl, rfl, rfl, by decide, by decide⟩
instance : SizeIs Try.prog 195 1 := ⟨by kernel_rfl⟩
instance : AggIs Try.prog 195 false := ⟨by kernel_rfl⟩
instance : ZeroIs Try.prog 195 (Value.nilFunc) := ⟨by kernel_rfl⟩
instance : BytesIs Try.prog 195 1 8 := ⟨Try.t195, _, by kernel_rfl, rfl, rfl, rfl, rfl, by decide, by decide⟩
instance : UnderIs Try.prog 196 (.float Go.FloatKind.f64) := ⟨Try.underlying196⟩
instance : SizeIs Try.prog 196 1 := ⟨by kernel_rfl⟩
instance : AggIs Try.prog 196 false := ⟨by kernel_rfl⟩
instance : ZeroIs Try.prog 196 ((Value.float FloatKind.f64 0)) := ⟨by kernel_rfl⟩
instance : BytesIs Try.prog 196 1 8 := ⟨Try.t196, _, by kernel_rfl, rfl, rfl, rfl, rfl, by decide, by decide⟩
instance : SizeIs Try.prog 197 1 := ⟨by kernel_rfl⟩
instance : AggIs Try.prog 197 false := ⟨by kernel_rfl⟩
instance : ZeroIs Try.prog 197 (Value.nilFunc) := ⟨by kernel_rfl⟩
instance : BytesIs Try.prog 197 1 8 := ⟨Try.t197, _, by kernel_rfl, rfl, rfl, rfl, rfl, by decide, by decide⟩
instance : SizeIs Try.prog 198 1 := ⟨by kernel_rfl⟩
instance : AggIs Try.prog 198 false := ⟨by kernel_rfl⟩
instance : ZeroIs Try.prog 198 (Value.nilFunc) := ⟨by kernel_rfl⟩
instance : BytesIs Try.prog 198 1 8 := ⟨Try.t198, _, by kernel_rfl, rfl, rfl, rfl, rfl, by decide, by decide⟩
instance : SizeIs Try.prog 199 1 := ⟨by kernel_rfl⟩
instance : AggIs Try.prog 199 false := ⟨by kernel_rfl⟩
instance : ZeroIs Try.prog 199 (Value.nilFunc) := ⟨by kernel_rfl⟩
instance : BytesIs Try.prog 199 1 8 := ⟨Try.t199, _, by kernel_rfl, rfl, rfl, rfl, rfl, by decide, by decide⟩
instance : SizeIs Try.prog 200 1 := ⟨by kernel_rfl⟩
instance : AggIs Try.prog 200 false := ⟨by kernel_rfl⟩
instance : ZeroIs Try.prog 200 (Value.nilFunc) := ⟨by kernel_rfl⟩
instance : BytesIs Try.prog 200 1 8 := ⟨Try.t200, _, by kernel_rfl, rfl, rfl, rfl, rfl, by decide, by decide⟩
instance : SizeIs Try.prog 201 1 := ⟨by kernel_rfl⟩
instance : AggIs Try.prog 201 false := ⟨by kernel_rfl⟩
instance : ZeroIs Try.prog 201 (Value.nilFunc) := ⟨by kernel_rfl⟩
instance : BytesIs Try.prog 201 1 8 := ⟨Try.t201, _, by kernel_rfl, rfl, rfl, rfl, rfl, by decide, by decide⟩
instance : SizeIs Try.prog 203 1 := ⟨by kernel_rfl⟩
instance : AggIs Try.prog 203 false := ⟨by kernel_rfl⟩
instance : ZeroIs Try.prog 203 (Value.nilFunc) := ⟨by kernel_rfl⟩
instance : BytesIs Try.prog 203 1 8 := ⟨Try.t203, _, by kernel_rfl, rfl, rfl, rfl, rfl, by decide, by decide⟩
instance : SizeIs Try.prog 205 1 := ⟨by kernel_rfl⟩
instance : AggIs Try.prog 205 false := ⟨by kernel_rfl⟩
instance : ZeroIs Try.prog 205 (Value.nilFunc) := ⟨by kernel_rfl⟩
instance : BytesIs Try.prog 205 1 8 := ⟨Try.t205, _, by kernel_rfl, rfl, rfl, rfl, rfl, by decide, by decide⟩
instance : SizeIs Try.prog 206 1 := ⟨by kernel_rfl⟩
instance : AggIs Try.prog 206 false := ⟨by kernel_rfl⟩
instance : ZeroIs Try.prog 206 (Value.nilFunc) := ⟨by kernel_rfl⟩
instance : BytesIs Try.prog 206 1 8 := ⟨Try.t206, _, by kernel_rfl, rfl, rfl, rfl, rfl, by decide, by decide⟩
instance : UnderIs Try.prog 207 (.slice 196) := ⟨Try.underlying207⟩
instance : SizeIs Try.prog 207 1 := ⟨by kernel_rfl⟩
instance : AggIs Try.prog 207 false := ⟨by kernel_rfl⟩
instance : ZeroIs Try.prog 207 ((Value.slice none 0 0)) := ⟨by kernel_rfl⟩
instance : BytesIs Try.prog 207 1 24 := ⟨Try.t207, _, by kernel_rfl, rfl, rfl, rfl, rfl, by decide, by decide⟩
instance : SizeIs Try.prog 208 1 := ⟨by kernel_rfl⟩
instance : AggIs Try.prog 208 false := ⟨by kernel_rfl⟩
instance : ZeroIs Try.prog 208 (Value.nilFunc) := ⟨by kernel_rfl⟩
instance : BytesIs Try.prog 208 1 8 := ⟨Try.t208, _, by kernel_rfl, rfl, rfl, rfl, rfl, by decide, by decide⟩
instance : SizeIs Try.prog 209 1 := ⟨by kernel_rfl⟩
instance : AggIs Try.prog 209 false := ⟨by kernel_rfl⟩
instance : ZeroIs Try.prog 209 (Value.nilFunc) := ⟨by kernel_rfl⟩
instance : BytesIs Try.prog 209 1 8 := ⟨Try.t209, _, by kernel_rfl, rfl, rfl, rfl, rfl, by decide, by decide⟩
instance : SizeIs Try.prog 210 1 := ⟨by kernel_rfl⟩
instance : AggIs Try.prog 210 false := ⟨by kernel_rfl⟩
instance : ZeroIs Try.prog 210 (Value.nilFunc) := ⟨by kernel_rfl⟩
instance : BytesIs Try.prog 210 1 8 := ⟨Try.t210, _, by kernel_rfl, rfl, rfl, rfl, rfl, by decide, by decide⟩
instance : SizeIs Try.prog 211 1 := ⟨by kernel_rfl⟩
instance : AggIs Try.prog 211 false := ⟨by kernel_rfl⟩
instance : ZeroIs Try.prog 211 (Value.nilFunc) := ⟨by kernel_rfl⟩
instance : BytesIs Try.prog 211 1 8 := ⟨Try.t211, _, by kernel_rfl, rfl, rfl, rfl, rfl, by decide, by decide⟩
instance : SizeIs Try.prog 212 1 := ⟨by kernel_rfl⟩
instance : AggIs Try.prog 212 false := ⟨by kernel_rfl⟩
instance : ZeroIs Try.prog 212 (Value.nilFunc) := ⟨by kernel_rfl⟩
instance : BytesIs Try.prog 212 1 8 := ⟨Try.t212, _, by kernel_rfl, rfl, rfl, rfl, rfl, by decide, by decide⟩
instance : SizeIs Try.prog 213 1 := ⟨by kernel_rfl⟩
instance : AggIs Try.prog 213 false := ⟨by kernel_rfl⟩
instance : ZeroIs Try.prog 213 (Value.nilFunc) := ⟨by kernel_rfl⟩
instance : BytesIs Try.prog 213 1 8 := ⟨Try.t213, _, by kernel_rfl, rfl, rfl, rfl, rfl, by decide, by decide⟩
instance : FieldIs Try.prog 214 0 0 17 1 := ⟨_, _, Try.underlying214, rfl, rfl, rfl, by kernel_rfl, by decide⟩
instance : FieldIs Try.prog 214 1 1 17 1 := ⟨_, _, Try.underlying214, rfl, rfl, rfl, by kernel_rfl, by decide⟩
instance : FieldIs Try.prog 214 2 2 17 1 := ⟨_, _, Try.underlying214, rfl, rfl, rfl, by kernel_rfl, by decide⟩
instance : FieldIs Try.prog 214 3 3 9 1 := ⟨_, _, Try.underlying214, rfl, rfl, rfl, by kernel_rfl, by decide⟩
instance : StructOk Try.prog 214 := ⟨_, Try.underlying214, by kernel_rfl⟩
instance : SizeIs Try.prog 214 4 := ⟨by kernel_rfl⟩
instance : AggIs Try.prog 214 true := ⟨by kernel_rfl⟩
instance : ZeroIs Try.prog 214 ((Value.agg #[Value.pointer none, Value.pointer none, Value.pointer none, Value.string ByteArray.empty])) := ⟨by kernel_rfl⟩
instance : BytesIs Try.prog 214 4 40 := ⟨Try.t214, _, by kernel_rfl, rfl, rfl, rfl, rfl, by decide, by decide⟩
instance : FieldIs Try.prog 215 0 0 17 1 := ⟨_, _, Try.underlying215, rfl, rfl, rfl, by kernel_rfl, by decide⟩
instance : FieldIs Try.prog 215 1 1 17 1 := ⟨_, _, Try.underlying215, rfl, rfl, rfl, by kernel_rfl, by decide⟩
instance : FieldIs Try.prog 215 2 2 17 1 := ⟨_, _, Try.underlying215, rfl, rfl, rfl, by kernel_rfl, by decide⟩
instance : FieldIs Try.prog 215 3 3 9 1 := ⟨_, _, Try.underlying215, rfl, rfl, rfl, by kernel_rfl, by decide⟩
instance : StructOk Try.prog 215 := ⟨_, Try.underlying215, by kernel_rfl⟩
instance : SizeIs Try.prog 215 4 := ⟨by kernel_rfl⟩
instance : AggIs Try.prog 215 true := ⟨by kernel_rfl⟩
instance : ZeroIs Try.prog 215 ((Value.agg #[Value.pointer none, Value.pointer none, Value.pointer none, Value.string ByteArray.empty])) := ⟨by kernel_rfl⟩
instance : BytesIs Try.prog 215 4 40 := ⟨Try.t215, _, by kernel_rfl, rfl, rfl, rfl, rfl, by decide, by decide⟩
instance : UnderIs Try.prog 216 (.array 0 16) := ⟨Try.underlying216⟩
instance : SizeIs Try.prog 216 0 := ⟨by kernel_rfl⟩
instance : AggIs Try.prog 216 true := ⟨by kernel_rfl⟩
instance : StructOk Try.prog 217 := ⟨_, Try.underlying217, by kernel_rfl⟩
instance : SizeIs Try.prog 217 0 := ⟨by kernel_rfl⟩
instance : AggIs Try.prog 217 true := ⟨by kernel_rfl⟩
instance : StructOk Try.prog 218 := ⟨_, Try.underlying218, by kernel_rfl⟩
instance : SizeIs Try.prog 218 0 := ⟨by kernel_rfl⟩
instance : AggIs Try.prog 218 true := ⟨by kernel_rfl⟩
instance : SizeIs Try.prog 219 1 := ⟨by kernel_rfl⟩
instance : AggIs Try.prog 219 false := ⟨by kernel_rfl⟩
instance : ZeroIs Try.prog 219 (Value.nilFunc) := ⟨by kernel_rfl⟩
instance : BytesIs Try.prog 219 1 8 := ⟨Try.t219, _, by kernel_rfl, rfl, rfl, rfl, rfl, by decide, by decide⟩
instance : UnderIs Try.prog 220 (.int IntKind.u32) := ⟨Try.underlying220⟩
instance : SizeIs Try.prog 220 1 := ⟨by kernel_rfl⟩
instance : AggIs Try.prog 220 false := ⟨by kernel_rfl⟩
instance : ZeroIs Try.prog 220 ((Value.int IntKind.u32 0)) := ⟨by kernel_rfl⟩
instance : BytesIs Try.prog 220 1 4 := ⟨Try.t220, _, by kernel_rfl, rfl, rfl, rfl, rfl, by decide, by decide⟩
instance : UnderIs Try.prog 221 (.int IntKind.u8) := ⟨Try.underlying221⟩
instance : SizeIs Try.prog 221 1 := ⟨by kernel_rfl⟩
instance : AggIs Try.prog 221 false := ⟨by kernel_rfl⟩
instance : ZeroIs Try.prog 221 ((Value.int IntKind.u8 0)) := ⟨by kernel_rfl⟩
instance : BytesIs Try.prog 221 1 1 := ⟨Try.t221, _, by kernel_rfl, rfl, rfl, rfl, rfl, by decide, by decide⟩
instance : UnderIs Try.prog 222 (.int IntKind.u8) := ⟨Try.underlying222⟩
instance : SizeIs Try.prog 222 1 := ⟨by kernel_rfl⟩
instance : AggIs Try.prog 222 false := ⟨by kernel_rfl⟩
instance : ZeroIs Try.prog 222 ((Value.int IntKind.u8 0)) := ⟨by kernel_rfl⟩
instance : BytesIs Try.prog 222 1 1 := ⟨Try.t222, _, by kernel_rfl, rfl, rfl, rfl, rfl, by decide, by decide⟩
instance : SizeIs Try.prog 223 1 := ⟨by kernel_rfl⟩
instance : AggIs Try.prog 223 false := ⟨by kernel_rfl⟩
instance : ZeroIs Try.prog 223 (Value.nilFunc) := ⟨by kernel_rfl⟩
instance : BytesIs Try.prog 223 1 8 := ⟨Try.t223, _, by kernel_rfl, rfl, rfl, rfl, rfl, by decide, by decide⟩
instance : UnderIs Try.prog 224 (.pointer 5) := ⟨Try.underlying224⟩
instance : SizeIs Try.prog 224 1 := ⟨by kernel_rfl⟩
instance : AggIs Try.prog 224 false := ⟨by kernel_rfl⟩
instance : ZeroIs Try.prog 224 ((Value.pointer none)) := ⟨by kernel_rfl⟩
instance : BytesIs Try.prog 224 1 8 := ⟨Try.t224, _, by kernel_rfl, rfl, rfl, rfl, rfl, by decide, by decide⟩
instance : UnderIs Try.prog 225 (.int IntKind.i32) := ⟨Try.underlying225⟩
instance : SizeIs Try.prog 225 1 := ⟨by kernel_rfl⟩
instance : AggIs Try.prog 225 false := ⟨by kernel_rfl⟩
instance : ZeroIs Try.prog 225 ((Value.int IntKind.i32 0)) := ⟨by kernel_rfl⟩
instance : BytesIs Try.prog 225 1 4 := ⟨Try.t225, _, by kernel_rfl, rfl, rfl, rfl, rfl, by decide, by decide⟩
instance : UnderIs Try.prog 226 (.int IntKind.i32) := ⟨Try.underlying226⟩
instance : SizeIs Try.prog 226 1 := ⟨by kernel_rfl⟩
instance : AggIs Try.prog 226 false := ⟨by kernel_rfl⟩
instance : ZeroIs Try.prog 226 ((Value.int IntKind.i32 0)) := ⟨by kernel_rfl⟩
instance : BytesIs Try.prog 226 1 4 := ⟨Try.t226, _, by kernel_rfl, rfl, rfl, rfl, rfl, by decide, by decide⟩
instance : FieldIs Try.prog 227 0 0 12 1 := ⟨_, _, Try.underlying227, rfl, rfl, rfl, by kernel_rfl, by decide⟩
instance : FieldIs Try.prog 227 1 1 12 1 := ⟨_, _, Try.underlying227, rfl, rfl, rfl, by kernel_rfl, by decide⟩
instance : FieldIs Try.prog 227 2 2 220 1 := ⟨_, _, Try.underlying227, rfl, rfl, rfl, by kernel_rfl, by decide⟩
instance : FieldIs Try.prog 227 3 3 221 1 := ⟨_, _, Try.underlying227, rfl, rfl, rfl, by kernel_rfl, by decide⟩
instance : FieldIs Try.prog 227 4 4 5 1 := ⟨_, _, Try.underlying227, rfl, rfl, rfl, by kernel_rfl, by decide⟩
instance : FieldIs Try.prog 227 5 5 5 1 := ⟨_, _, Try.underlying227, rfl, rfl, rfl, by kernel_rfl, by decide⟩
instance : FieldIs Try.prog 227 6 6 222 1 := ⟨_, _, Try.underlying227, rfl, rfl, rfl, by kernel_rfl, by decide⟩
instance : FieldIs Try.prog 227 7 7 223 1 := ⟨_, _, Try.underlying227, rfl, rfl, rfl, by kernel_rfl, by decide⟩
instance : FieldIs Try.prog 227 8 8 224 1 := ⟨_, _, Try.underlying227, rfl, rfl, rfl, by kernel_rfl, by decide⟩
instance : FieldIs Try.prog 227 9 9 225 1 := ⟨_, _, Try.underlying227, rfl, rfl, rfl, by kernel_rfl, by decide⟩
instance : FieldIs Try.prog 227 10 10 226 1 := ⟨_, _, Try.underlying227, rfl, rfl, rfl, by kernel_rfl, by decide⟩
instance : StructOk Try.prog 227 := ⟨_, Try.underlying227, by kernel_rfl⟩
instance : SizeIs Try.prog 227 11 := ⟨by kernel_rfl⟩
instance : AggIs Try.prog 227 true := ⟨by kernel_rfl⟩
instance : ZeroIs Try.prog 227 ((Value.agg #[Value.int IntKind.u64 0, Value.int IntKind.u64 0, Value.int IntKind.u32 0, Value.int IntKind.u8 0, Value.int IntKind.u8 0, Value.int IntKind.u8 0, Value.int IntKind.u8 0, Value.nilFunc, Value.pointer none, Value.int IntKind.i32 0, Value.int IntKind.i32 0])) := ⟨by kernel_rfl⟩
instance : BytesIs Try.prog 227 11 48 := ⟨Try.t227, _, by kernel_rfl, rfl, rfl, rfl, rfl, by decide, by decide⟩
instance : FieldIs Try.prog 228 0 0 12 1 := ⟨_, _, Try.underlying228, rfl, rfl, rfl, by kernel_rfl, by decide⟩
instance : FieldIs Try.prog 228 1 1 12 1 := ⟨_, _, Try.underlying228, rfl, rfl, rfl, by kernel_rfl, by decide⟩
instance : FieldIs Try.prog 228 2 2 220 1 := ⟨_, _, Try.underlying228, rfl, rfl, rfl, by kernel_rfl, by decide⟩
instance : FieldIs Try.prog 228 3 3 221 1 := ⟨_, _, Try.underlying228, rfl, rfl, rfl, by kernel_rfl, by decide⟩
instance : FieldIs Try.prog 228 4 4 5 1 := ⟨_, _, Try.underlying228, rfl, rfl, rfl, by kernel_rfl, by decide⟩
instance : FieldIs Try.prog 228 5 5 5 1 := ⟨_, _, Try.underlying228, rfl, rfl, rfl, by kernel_rfl, by decide⟩
instance : FieldIs Try.prog 228 6 6 222 1 := ⟨_, _, Try.underlying228, rfl, rfl, rfl, by kernel_rfl, by decide⟩
instance : FieldIs Try.prog 228 7 7 223 1 := ⟨_, _, Try.underlying228, rfl, rfl, rfl, by kernel_rfl, by decide⟩
instance : FieldIs Try.prog 228 8 8 224 1 := ⟨_, _, Try.underlying228, rfl, rfl, rfl, by kernel_rfl, by decide⟩
instance : FieldIs Try.prog 228 9 9 225 1 := ⟨_, _, Try.underlying228, rfl, rfl, rfl, by kernel_rfl, by decide⟩
instance : FieldIs Try.prog 228 10 10 226 1 := ⟨_, _, Try.underlying228, rfl, rfl, rfl, by kernel_rfl, by decide⟩
instance : StructOk Try.prog 228 := ⟨_, Try.underlying228, by kernel_rfl⟩
instance : SizeIs Try.prog 228 11 := ⟨by kernel_rfl⟩
instance : AggIs Try.prog 228 true := ⟨by kernel_rfl⟩
instance : ZeroIs Try.prog 228 ((Value.agg #[Value.int IntKind.u64 0, Value.int IntKind.u64 0, Value.int IntKind.u32 0, Value.int IntKind.u8 0, Value.int IntKind.u8 0, Value.int IntKind.u8 0, Value.int IntKind.u8 0, Value.nilFunc, Value.pointer none, Value.int IntKind.i32 0, Value.int IntKind.i32 0])) := ⟨by kernel_rfl⟩
instance : BytesIs Try.prog 228 11 48 := ⟨Try.t228, _, by kernel_rfl, rfl, rfl, rfl, rfl, by decide, by decide⟩
end Go.Ideal

-- Ca
set_option linter.unusedSimpArgs false
set_option linter.unusedVariables false
namespace Go.Ideal
open Go Go.Proofs
/-! ### What is known of the gates -/
structure KE where
  name : ByteArray
  arity : Int
  halves : Int
  cliff : Bool
  diag : Bool
  back : ByteArray
def KT : List KE := [
  ⟨(⟨#[105]⟩ : ByteArray), 1, 0, true, true, (⟨#[105]⟩ : ByteArray)⟩,
  ⟨(⟨#[120]⟩ : ByteArray), 1, 0, true, false, (⟨#[120]⟩ : ByteArray)⟩,
  ⟨(⟨#[121]⟩ : ByteArray), 1, 0, true, false, (⟨#[121]⟩ : ByteArray)⟩,
  ⟨(⟨#[122]⟩ : ByteArray), 1, 0, true, true, (⟨#[122]⟩ : ByteArray)⟩,
  ⟨(⟨#[104]⟩ : ByteArray), 1, 1, true, false, (⟨#[104]⟩ : ByteArray)⟩,
  ⟨(⟨#[115]⟩ : ByteArray), 1, 0, true, true, (⟨#[115, 100, 103]⟩ : ByteArray)⟩,
  ⟨(⟨#[115, 100, 103]⟩ : ByteArray), 1, 0, true, true, (⟨#[115]⟩ : ByteArray)⟩,
  ⟨(⟨#[116]⟩ : ByteArray), 1, 0, false, true, (⟨#[116, 100, 103]⟩ : ByteArray)⟩,
  ⟨(⟨#[116, 100, 103]⟩ : ByteArray), 1, 0, false, true, (⟨#[116]⟩ : ByteArray)⟩,
  ⟨(⟨#[118]⟩ : ByteArray), 1, 1, true, false, (⟨#[118, 100, 103]⟩ : ByteArray)⟩,
  ⟨(⟨#[118, 100, 103]⟩ : ByteArray), 1, 1, true, false, (⟨#[118]⟩ : ByteArray)⟩,
  ⟨(⟨#[119]⟩ : ByteArray), 1, 0, true, true, (⟨#[119, 100, 103]⟩ : ByteArray)⟩,
  ⟨(⟨#[119, 100, 103]⟩ : ByteArray), 1, 0, true, true, (⟨#[119]⟩ : ByteArray)⟩,
  ⟨(⟨#[99, 120]⟩ : ByteArray), 2, 0, true, false, (⟨#[99, 120]⟩ : ByteArray)⟩,
  ⟨(⟨#[99, 121]⟩ : ByteArray), 2, 0, true, false, (⟨#[99, 121]⟩ : ByteArray)⟩,
  ⟨(⟨#[99, 122]⟩ : ByteArray), 2, 0, true, true, (⟨#[99, 122]⟩ : ByteArray)⟩,
  ⟨(⟨#[99, 104]⟩ : ByteArray), 2, 1, false, false, (⟨#[99, 104]⟩ : ByteArray)⟩,
  ⟨(⟨#[99, 115]⟩ : ByteArray), 2, 0, false, true, (⟨#[99, 115, 100, 103]⟩ : ByteArray)⟩,
  ⟨(⟨#[99, 115, 100, 103]⟩ : ByteArray), 2, 0, false, true, (⟨#[99, 115]⟩ : ByteArray)⟩,
  ⟨(⟨#[115, 119, 97, 112]⟩ : ByteArray), 2, 0, true, false, (⟨#[115, 119, 97, 112]⟩ : ByteArray)⟩,
  ⟨(⟨#[105, 115, 119, 97, 112]⟩ : ByteArray), 2, 0, true, false, (⟨#[105, 115, 119, 97, 112, 100, 103]⟩ : ByteArray)⟩,
  ⟨(⟨#[105, 115, 119, 97, 112, 100, 103]⟩ : ByteArray), 2, 0, true, false, (⟨#[105, 115, 119, 97, 112]⟩ : ByteArray)⟩,
  ⟨(⟨#[99, 99, 120]⟩ : ByteArray), 3, 0, false, false, (⟨#[99, 99, 120]⟩ : ByteArray)⟩,
  ⟨(⟨#[99, 99, 122]⟩ : ByteArray), 3, 0, false, true, (⟨#[99, 99, 122]⟩ : ByteArray)⟩,
  ⟨(⟨#[99, 115, 119, 97, 112]⟩ : ByteArray), 3, 0, false, false, (⟨#[99, 115, 119, 97, 112]⟩ : ByteArray)⟩]
def krow (e : KE) (c : Value) : ByteArray × Value := (e.name, .agg [.int .i64 e.arity, .int .i64 e.halves, .bool e.cliff, .bool e.diag, .string e.back, c].toArray)
def kOf (b : ByteArray) : Option KE := KT.find? fun e => beqS b e.name
def arityS (b : ByteArray) : Int := match kOf b with | some e => e.arity | none => 0
def halvesS (b : ByteArray) : Int := match kOf b with | some e => e.halves | none => 0
def cliffS (b : ByteArray) : Bool := match kOf b with | some e => e.cliff | none => false
def diagS (b : ByteArray) : Bool := match kOf b with | some e => e.diag | none => false
def backS (b : ByteArray) : ByteArray × Int := match kOf b with | some e => (e.back, 0) | none => (⟨#[]⟩, 80)
def IsFn (v : Value) : Prop := ∃ f a b, v = .func (.func f) a b
theorem flip_spec (b : Int) (a : Option Addr) (l c : Nat) (h : IHp) : EvX Try.prog 102 [.int .i64 b, .slice a l c].toArray h (fun v h' => Ext h h' ∧ IsFn v) := by
  refine EvX_of Try.func102 rfl (by show 2 ≤ 6; decide) ?_
  repeat' (first | refine V_seq ?_ | refine V_region ?_ | refine WS_nil ?_ | refine S_normal ?_ | refine V_ret ?_ | refine WS_assign ?_ | refine WS_box rfl ?_ | refine WS_makeFunc ?_)
  exact retK_1 ⟨(Ext.push _ _).push' _, _, _, _, rfl⟩ (.inr rfl)
instance : CallIs Try.prog 102 := .of Try.func102 rfl rfl
theorem last_spec (b c : Int) (h : IHp) : EvX Try.prog 103 [.int .i64 b, .int .i64 c].toArray h (fun v h' => Ext h h' ∧ IsFn v) := by
  refine EvX_of Try.func103 rfl (by show 2 ≤ 6; decide) ?_
  repeat' (first | refine V_seq ?_ | refine V_region ?_ | refine WS_nil ?_ | refine S_normal ?_ | refine V_ret ?_ | refine WS_assign ?_ | refine WS_box rfl ?_ | refine WS_makeFunc ?_)
  exact retK_1 ⟨(Ext.push _ _).push' _, _, _, _, rfl⟩ (.inr rfl)
instance : CallIs Try.prog 103 := .of Try.func103 rfl rfl
theorem mixed_spec (b c d : Int) (h : IHp) : EvX Try.prog 104 [.int .i64 b, .int .i64 c, .int .i64 d].toArray h (fun v h' => Ext h h' ∧ IsFn v) := by
  refine EvX_of Try.func104 rfl (by show 3 ≤ 8; decide) ?_
  repeat' (first | refine V_seq ?_ | refine V_region ?_ | refine WS_nil ?_ | refine S_normal ?_ | refine V_ret ?_ | refine WS_assign ?_ | refine WS_box rfl ?_ | refine WS_makeFunc ?_)
  exact retK_1 ⟨((Ext.push _ _).push' _).push' _, _, _, _, rfl⟩ (.inr rfl)
instance : CallIs Try.prog 104 := .of Try.func104 rfl rfl
theorem swapped_spec (b c d : Int) (h : IHp) : EvX Try.prog 105 [.int .i64 b, .int .i64 c, .int .i64 d].toArray h (fun v h' => Ext h h' ∧ IsFn v) := by
  refine EvX_of Try.func105 rfl (by show 3 ≤ 8; decide) ?_
  repeat' (first | refine V_seq ?_ | refine V_region ?_ | refine WS_nil ?_ | refine S_normal ?_ | refine V_ret ?_ | refine WS_assign ?_ | refine WS_box rfl ?_ | refine WS_makeFunc ?_)
  exact retK_1 ⟨((Ext.push _ _).push' _).push' _, _, _, _, rfl⟩ (.inr rfl)
instance : CallIs Try.prog 105 := .of Try.func105 rfl rfl
def rowsOf (es : List KE) (cs : List Value) : List (ByteArray × Value) := List.zipWith krow es cs
theorem look_none {b : ByteArray} : ∀ (es : List KE) (cs : List Value), (es.all fun e => !beqS b e.name) = true → lookB b (rowsOf es cs) = none := by
  intro es
  induction es with
  | nil => intro cs _; rfl
  | cons e es ih =>
    intro cs h
    simp only [List.all_cons, Bool.and_eq_true, Bool.not_eq_true'] at h
    cases cs with
    | nil => rfl
    | cons c cs => simp only [rowsOf, List.zipWith_cons_cons, krow, lookB, h.1, Bool.false_eq_true, if_false]; exact ih cs h.2
theorem look_some {b : ByteArray} : ∀ (es : List KE) (cs : List Value), cs.length = es.length → match es.find? (fun e => beqS b e.name) with
    | none => lookB b (rowsOf es cs) = none
    | some e => ∃ c ∈ cs, lookB b (rowsOf es cs) = some (krow e c).2 := by
  intro es
  induction es with
  | nil => intro cs h; cases cs <;> simp [rowsOf, lookB] at h ⊢
  | cons e es ih =>
    intro cs h
    cases cs with
    | nil => simp at h
    | cons c cs =>
      simp only [List.length_cons, Nat.add_right_cancel_iff] at h
      rw [List.find?_cons]
      cases hb : beqS b e.name with
      | true => exact ⟨c, List.mem_cons_self, by simp [rowsOf, krow, lookB, hb]⟩
      | false =>
        have h1 := ih cs h
        cases hf : es.find? (fun e => beqS b e.name) with
        | none => rw [hf] at h1; simp only at h1 ⊢; simpa [rowsOf, krow, lookB, hb] using h1
        | some e' =>
          rw [hf] at h1
          obtain ⟨c', h2, h3⟩ := h1
          exact ⟨c', List.mem_cons_of_mem _ h2, by simpa [rowsOf, krow, lookB, hb] using h3⟩
/-- the map, as far as it is built -/
structure KInv (h0 H : IHp) (m n : Nat) (cs : List Value) : Prop where
  ext : Ext h0 H
  lo : h0.fresh ≤ m
  map : MapIs H m (rowsOf (KT.take n) cs)
  len : cs.length = n
  fns : ∀ c ∈ cs, IsFn c
theorem KInv.grow {h0 H H' : IHp} {m n : Nat} {cs : List Value} (k : KInv h0 H m n cs) (e : Ext H H') : KInv h0 H' m n cs := ⟨k.ext.trans e, k.lo, k.map.ext e, k.len, k.fns⟩
theorem KInv.add {h0 H H' : IHp} {m n : Nat} {cs : List Value} {c : Value} {e : KE} {b : ByteArray} {v : Value} (k : KInv h0 H m n cs) (he : KT[n]? = some e) (hb : (b, v) = krow e c) (hc : IsFn c)
    (hH : H' = H.putObj m (.map (ents (rowsOf (KT.take n) cs ++ [(b, v)]) 0) (rowsOf (KT.take n) cs ++ [(b, v)]).length)) : KInv h0 H' m (n + 1) (cs ++ [c]) := by
  have hn : n < KT.length := (List.getElem?_eq_some_iff.1 he).1
  have hr : rowsOf (KT.take (n + 1)) (cs ++ [c]) = rowsOf (KT.take n) cs ++ [(b, v)] := by
    rw [List.take_add_one, he, rowsOf, rowsOf, hb]
    simp only [Option.toList_some]
    rw [List.zipWith_append (by rw [List.length_take, k.len]; omega)]
    rfl
  refine ⟨by rw [hH]; exact k.ext.putObj k.lo, k.lo, ?_, by simp [k.len], fun c' hc' => ?_⟩
  · rw [hr, hH]
    refine ⟨k.map.even, ?_⟩
    have := (List.getElem?_eq_some_iff.1 k.map.eq).1
    simp [IHp.putObj, this]
  · rcases List.mem_append.1 hc' with h1 | h1
    · exact k.fns c' h1
    · simp at h1; subst h1; exact hc
set_option maxHeartbeats 4000000 in
theorem kinds_spec (h : IHp) : EvX Try.prog 77 [].toArray h (fun v h' => Ext h h' ∧ ∃ m cs, v = .map (some m) ∧ h.fresh ≤ m ∧ MapIs h' m (rowsOf KT cs) ∧ cs.length = 25 ∧ ∀ c ∈ cs, IsFn c) := by
  refine EvX_of Try.func77 rfl (by show 0 ≤ 56; decide) ?_
  repeat (first | refine V_seq ?_ | refine V_region ?_ | refine WS_nil ?_ | refine S_normal ?_ | refine WS_assign ?_)
  refine WS_makeMap ?_
  refine WS_gen ?_
  intro H0 hH0
  have k0 : KInv h H0 h.fresh 0 [] := ⟨hH0 ▸ Ext.push _ _, Nat.le_refl _, ⟨by unfold IHp.fresh; omega, by rw [hH0]; exact obj_push h _⟩, rfl, fun c hc => by simp at hc⟩
  generalize h.fresh = m at *
  clear hH0
  repeat (refine WS_buildSlice (by decide) rfl rfl (by simp [Value.cells]) ?_)
  refine WS_gen ?_
  intro G hG
  have k0 := k0.grow (H' := G) (hG ▸ Ext.push _ _)
  clear hG
  refine WS_call (flip_spec _ _ _ _ _) ?_
  rintro _ G ⟨eG, f, a, b, rfl⟩
  have k0 := k0.grow eG
  repeat (refine WS_build ?_)
  refine WS_insert (mi := k0.map) (look_none _ _ (by decide +kernel)) ?_
  refine WS_gen ?_
  intro H1 hH
  have k1 := k0.add (e := ⟨(⟨#[105]⟩ : ByteArray), 1, 0, true, true, (⟨#[105]⟩ : ByteArray)⟩) rfl rfl ⟨_, _, _, rfl⟩ hH
  refine WS_live1 1 ?_
  intro s g1
  clear hH
  repeat (refine WS_buildSlice (by decide) rfl rfl (by simp [Value.cells]) ?_)
  refine WS_gen ?_
  intro G hG
  have k1 := k1.grow (H' := G) (hG ▸ Ext.push _ _)
  clear hG
  refine WS_call (flip_spec _ _ _ _ _) ?_
  rintro _ G ⟨eG, f, a, b, rfl⟩
  have k1 := k1.grow eG
  repeat (refine WS_build ?_)
  refine WS_insert (mi := k1.map) (look_none _ _ (by decide +kernel)) ?_
  refine WS_gen ?_
  intro H2 hH
  have k2 := k1.add (e := ⟨(⟨#[120]⟩ : ByteArray), 1, 0, true, false, (⟨#[120]⟩ : ByteArray)⟩) rfl rfl ⟨_, _, _, rfl⟩ hH
  refine WS_live1 1 ?_
  intro s g1
  clear hH
  repeat (refine WS_buildSlice (by decide) rfl rfl (by simp [Value.cells]) ?_)
  refine WS_gen ?_
  intro G hG
  have k2 := k2.grow (H' := G) (hG ▸ Ext.push _ _)
  clear hG
  refine WS_call (flip_spec _ _ _ _ _) ?_
  rintro _ G ⟨eG, f, a, b, rfl⟩
  have k2 := k2.grow eG
  repeat (refine WS_build ?_)
  refine WS_insert (mi := k2.map) (look_none _ _ (by decide +kernel)) ?_
  refine WS_gen ?_
  intro H3 hH
  have k3 := k2.add (e := ⟨(⟨#[121]⟩ : ByteArray), 1, 0, true, false, (⟨#[121]⟩ : ByteArray)⟩) rfl rfl ⟨_, _, _, rfl⟩ hH
  refine WS_live1 1 ?_
  intro s g1
  clear hH
  skip
  refine WS_call (last_spec _ _ _) ?_
  rintro _ G ⟨eG, f, a, b, rfl⟩
  have k3 := k3.grow eG
  repeat (refine WS_build ?_)
  refine WS_insert (mi := k3.map) (look_none _ _ (by decide +kernel)) ?_
  refine WS_gen ?_
  intro H4 hH
  have k4 := k3.add (e := ⟨(⟨#[122]⟩ : ByteArray), 1, 0, true, true, (⟨#[122]⟩ : ByteArray)⟩) rfl rfl ⟨_, _, _, rfl⟩ hH
  refine WS_live1 1 ?_
  intro s g1
  clear hH
  skip
  refine WS_call (mixed_spec _ _ _ _) ?_
  rintro _ G ⟨eG, f, a, b, rfl⟩
  have k4 := k4.grow eG
  repeat (refine WS_build ?_)
  refine WS_insert (mi := k4.map) (look_none _ _ (by decide +kernel)) ?_
  refine WS_gen ?_
  intro H5 hH
  have k5 := k4.add (e := ⟨(⟨#[104]⟩ : ByteArray), 1, 1, true, false, (⟨#[104]⟩ : ByteArray)⟩) rfl rfl ⟨_, _, _, rfl⟩ hH
  refine WS_live1 1 ?_
  intro s g1
  clear hH
  skip
  refine WS_call (last_spec _ _ _) ?_
  rintro _ G ⟨eG, f, a, b, rfl⟩
  have k5 := k5.grow eG
  repeat (refine WS_build ?_)
  refine WS_insert (mi := k5.map) (look_none _ _ (by decide +kernel)) ?_
  refine WS_gen ?_
  intro H6 hH
  have k6 := k5.add (e := ⟨(⟨#[115]⟩ : ByteArray), 1, 0, true, true, (⟨#[115, 100, 103]⟩ : ByteArray)⟩) rfl rfl ⟨_, _, _, rfl⟩ hH
  refine WS_live1 1 ?_
  intro s g1
  clear hH
  skip
  refine WS_call (last_spec _ _ _) ?_
  rintro _ G ⟨eG, f, a, b, rfl⟩
  have k6 := k6.grow eG
  repeat (refine WS_build ?_)
  refine WS_insert (mi := k6.map) (look_none _ _ (by decide +kernel)) ?_
  refine WS_gen ?_
  intro H7 hH
  have k7 := k6.add (e := ⟨(⟨#[115, 100, 103]⟩ : ByteArray), 1, 0, true, true, (⟨#[115]⟩ : ByteArray)⟩) rfl rfl ⟨_, _, _, rfl⟩ hH
  refine WS_live1 1 ?_
  intro s g1
  clear hH
  skip
  refine WS_call (last_spec _ _ _) ?_
  rintro _ G ⟨eG, f, a, b, rfl⟩
  have k7 := k7.grow eG
  repeat (refine WS_build ?_)
  refine WS_insert (mi := k7.map) (look_none _ _ (by decide +kernel)) ?_
  refine WS_gen ?_
  intro H8 hH
  have k8 := k7.add (e := ⟨(⟨#[116]⟩ : ByteArray), 1, 0, false, true, (⟨#[116, 100, 103]⟩ : ByteArray)⟩) rfl rfl ⟨_, _, _, rfl⟩ hH
  refine WS_live1 1 ?_
  intro s g1
  clear hH
  skip
  refine WS_call (last_spec _ _ _) ?_
  rintro _ G ⟨eG, f, a, b, rfl⟩
  have k8 := k8.grow eG
  repeat (refine WS_build ?_)
  refine WS_insert (mi := k8.map) (look_none _ _ (by decide +kernel)) ?_
  refine WS_gen ?_
  intro H9 hH
  have k9 := k8.add (e := ⟨(⟨#[116, 100, 103]⟩ : ByteArray), 1, 0, false, true, (⟨#[116]⟩ : ByteArray)⟩) rfl rfl ⟨_, _, _, rfl⟩ hH
  refine WS_live1 1 ?_
  intro s g1
  clear hH
  skip
  refine WS_call (mixed_spec _ _ _ _) ?_
  rintro _ G ⟨eG, f, a, b, rfl⟩
  have k9 := k9.grow eG
  repeat (refine WS_build ?_)
  refine WS_insert (mi := k9.map) (look_none _ _ (by decide +kernel)) ?_
  refine WS_gen ?_
  intro H10 hH
  have k10 := k9.add (e := ⟨(⟨#[118]⟩ : ByteArray), 1, 1, true, false, (⟨#[118, 100, 103]⟩ : ByteArray)⟩) rfl rfl ⟨_, _, _, rfl⟩ hH
  refine WS_live1 1 ?_
  intro s g1
  clear hH
  skip
  refine WS_call (mixed_spec _ _ _ _) ?_
  rintro _ G ⟨eG, f, a, b, rfl⟩
  have k10 := k10.grow eG
  repeat (refine WS_build ?_)
  refine WS_insert (mi := k10.map) (look_none _ _ (by decide +kernel)) ?_
  refine WS_gen ?_
  intro H11 hH
  have k11 := k10.add (e := ⟨(⟨#[118, 100, 103]⟩ : ByteArray), 1, 1, true, false, (⟨#[118]⟩ : ByteArray)⟩) rfl rfl ⟨_, _, _, rfl⟩ hH
  refine WS_live1 1 ?_
  intro s g1
  clear hH
  repeat (refine WS_buildSlice (by decide) rfl rfl (by simp [Value.cells]) ?_)
  refine WS_gen ?_
  intro G hG
  have k11 := k11.grow (H' := G) (hG ▸ Ext.push _ _)
  clear hG
  refine WS_call (flip_spec _ _ _ _ _) ?_
  rintro _ G ⟨eG, f, a, b, rfl⟩
  have k11 := k11.grow eG
  repeat (refine WS_build ?_)
  refine WS_insert (mi := k11.map) (look_none _ _ (by decide +kernel)) ?_
  refine WS_gen ?_
  intro H12 hH
  have k12 := k11.add (e := ⟨(⟨#[119]⟩ : ByteArray), 1, 0, true, true, (⟨#[119, 100, 103]⟩ : ByteArray)⟩) rfl rfl ⟨_, _, _, rfl⟩ hH
  refine WS_live1 1 ?_
  intro s g1
  clear hH
  repeat (refine WS_buildSlice (by decide) rfl rfl (by simp [Value.cells]) ?_)
  refine WS_gen ?_
  intro G hG
  have k12 := k12.grow (H' := G) (hG ▸ Ext.push _ _)
  clear hG
  refine WS_call (flip_spec _ _ _ _ _) ?_
  rintro _ G ⟨eG, f, a, b, rfl⟩
  have k12 := k12.grow eG
  repeat (refine WS_build ?_)
  refine WS_insert (mi := k12.map) (look_none _ _ (by decide +kernel)) ?_
  refine WS_gen ?_
  intro H13 hH
  have k13 := k12.add (e := ⟨(⟨#[119, 100, 103]⟩ : ByteArray), 1, 0, true, true, (⟨#[119]⟩ : ByteArray)⟩) rfl rfl ⟨_, _, _, rfl⟩ hH
  refine WS_live1 1 ?_
  intro s g1
  clear hH
  skip
  refine WS_call (swapped_spec _ _ _ _) ?_
  rintro _ G ⟨eG, f, a, b, rfl⟩
  have k13 := k13.grow eG
  repeat (refine WS_build ?_)
  refine WS_insert (mi := k13.map) (look_none _ _ (by decide +kernel)) ?_
  refine WS_gen ?_
  intro H14 hH
  have k14 := k13.add (e := ⟨(⟨#[99, 120]⟩ : ByteArray), 2, 0, true, false, (⟨#[99, 120]⟩ : ByteArray)⟩) rfl rfl ⟨_, _, _, rfl⟩ hH
  refine WS_live1 1 ?_
  intro s g1
  clear hH
  repeat (refine WS_build ?_)
  refine WS_insert (mi := k14.map) (look_none _ _ (by decide +kernel)) ?_
  refine WS_gen ?_
  intro H15 hH
  have k15 := k14.add (e := ⟨(⟨#[99, 121]⟩ : ByteArray), 2, 0, true, false, (⟨#[99, 121]⟩ : ByteArray)⟩) rfl rfl ⟨_, _, _, rfl⟩ hH
  refine WS_live1 1 ?_
  intro s g1
  clear hH
  skip
  refine WS_call (last_spec _ _ _) ?_
  rintro _ G ⟨eG, f, a, b, rfl⟩
  have k15 := k15.grow eG
  repeat (refine WS_build ?_)
  refine WS_insert (mi := k15.map) (look_none _ _ (by decide +kernel)) ?_
  refine WS_gen ?_
  intro H16 hH
  have k16 := k15.add (e := ⟨(⟨#[99, 122]⟩ : ByteArray), 2, 0, true, true, (⟨#[99, 122]⟩ : ByteArray)⟩) rfl rfl ⟨_, _, _, rfl⟩ hH
  refine WS_live1 1 ?_
  intro s g1
  clear hH
  repeat (refine WS_build ?_)
  refine WS_insert (mi := k16.map) (look_none _ _ (by decide +kernel)) ?_
  refine WS_gen ?_
  intro H17 hH
  have k17 := k16.add (e := ⟨(⟨#[99, 104]⟩ : ByteArray), 2, 1, false, false, (⟨#[99, 104]⟩ : ByteArray)⟩) rfl rfl ⟨_, _, _, rfl⟩ hH
  refine WS_live1 1 ?_
  intro s g1
  clear hH
  skip
  refine WS_call (last_spec _ _ _) ?_
  rintro _ G ⟨eG, f, a, b, rfl⟩
  have k17 := k17.grow eG
  repeat (refine WS_build ?_)
  refine WS_insert (mi := k17.map) (look_none _ _ (by decide +kernel)) ?_
  refine WS_gen ?_
  intro H18 hH
  have k18 := k17.add (e := ⟨(⟨#[99, 115]⟩ : ByteArray), 2, 0, false, true, (⟨#[99, 115, 100, 103]⟩ : ByteArray)⟩) rfl rfl ⟨_, _, _, rfl⟩ hH
  refine WS_live1 1 ?_
  intro s g1
  clear hH
  skip
  refine WS_call (last_spec _ _ _) ?_
  rintro _ G ⟨eG, f, a, b, rfl⟩
  have k18 := k18.grow eG
  repeat (refine WS_build ?_)
  refine WS_insert (mi := k18.map) (look_none _ _ (by decide +kernel)) ?_
  refine WS_gen ?_
  intro H19 hH
  have k19 := k18.add (e := ⟨(⟨#[99, 115, 100, 103]⟩ : ByteArray), 2, 0, false, true, (⟨#[99, 115]⟩ : ByteArray)⟩) rfl rfl ⟨_, _, _, rfl⟩ hH
  refine WS_live1 1 ?_
  intro s g1
  clear hH
  skip
  refine WS_call (swapped_spec _ _ _ _) ?_
  rintro _ G ⟨eG, f, a, b, rfl⟩
  have k19 := k19.grow eG
  repeat (refine WS_build ?_)
  refine WS_insert (mi := k19.map) (look_none _ _ (by decide +kernel)) ?_
  refine WS_gen ?_
  intro H20 hH
  have k20 := k19.add (e := ⟨(⟨#[115, 119, 97, 112]⟩ : ByteArray), 2, 0, true, false, (⟨#[115, 119, 97, 112]⟩ : ByteArray)⟩) rfl rfl ⟨_, _, _, rfl⟩ hH
  refine WS_live1 1 ?_
  intro s g1
  clear hH
  skip
  refine WS_call (swapped_spec _ _ _ _) ?_
  rintro _ G ⟨eG, f, a, b, rfl⟩
  have k20 := k20.grow eG
  repeat (refine WS_build ?_)
  refine WS_insert (mi := k20.map) (look_none _ _ (by decide +kernel)) ?_
  refine WS_gen ?_
  intro H21 hH
  have k21 := k20.add (e := ⟨(⟨#[105, 115, 119, 97, 112]⟩ : ByteArray), 2, 0, true, false, (⟨#[105, 115, 119, 97, 112, 100, 103]⟩ : ByteArray)⟩) rfl rfl ⟨_, _, _, rfl⟩ hH
  refine WS_live1 1 ?_
  intro s g1
  clear hH
  skip
  refine WS_call (swapped_spec _ _ _ _) ?_
  rintro _ G ⟨eG, f, a, b, rfl⟩
  have k21 := k21.grow eG
  repeat (refine WS_build ?_)
  refine WS_insert (mi := k21.map) (look_none _ _ (by decide +kernel)) ?_
  refine WS_gen ?_
  intro H22 hH
  have k22 := k21.add (e := ⟨(⟨#[105, 115, 119, 97, 112, 100, 103]⟩ : ByteArray), 2, 0, true, false, (⟨#[105, 115, 119, 97, 112]⟩ : ByteArray)⟩) rfl rfl ⟨_, _, _, rfl⟩ hH
  refine WS_live1 1 ?_
  intro s g1
  clear hH
  skip
  refine WS_call (swapped_spec _ _ _ _) ?_
  rintro _ G ⟨eG, f, a, b, rfl⟩
  have k22 := k22.grow eG
  repeat (refine WS_build ?_)
  refine WS_insert (mi := k22.map) (look_none _ _ (by decide +kernel)) ?_
  refine WS_gen ?_
  intro H23 hH
  have k23 := k22.add (e := ⟨(⟨#[99, 99, 120]⟩ : ByteArray), 3, 0, false, false, (⟨#[99, 99, 120]⟩ : ByteArray)⟩) rfl rfl ⟨_, _, _, rfl⟩ hH
  refine WS_live1 1 ?_
  intro s g1
  clear hH
  skip
  refine WS_call (last_spec _ _ _) ?_
  rintro _ G ⟨eG, f, a, b, rfl⟩
  have k23 := k23.grow eG
  repeat (refine WS_build ?_)
  refine WS_insert (mi := k23.map) (look_none _ _ (by decide +kernel)) ?_
  refine WS_gen ?_
  intro H24 hH
  have k24 := k23.add (e := ⟨(⟨#[99, 99, 122]⟩ : ByteArray), 3, 0, false, true, (⟨#[99, 99, 122]⟩ : ByteArray)⟩) rfl rfl ⟨_, _, _, rfl⟩ hH
  refine WS_live1 1 ?_
  intro s g1
  clear hH
  skip
  refine WS_call (swapped_spec _ _ _ _) ?_
  rintro _ G ⟨eG, f, a, b, rfl⟩
  have k24 := k24.grow eG
  repeat (refine WS_build ?_)
  refine WS_insert (mi := k24.map) (look_none _ _ (by decide +kernel)) ?_
  refine WS_gen ?_
  intro H25 hH
  have k25 := k24.add (e := ⟨(⟨#[99, 115, 119, 97, 112]⟩ : ByteArray), 3, 0, false, false, (⟨#[99, 115, 119, 97, 112]⟩ : ByteArray)⟩) rfl rfl ⟨_, _, _, rfl⟩ hH
  refine WS_live1 1 ?_
  intro s g1
  clear hH
  repeat (first | refine WS_nil ?_ | refine S_normal ?_ | refine V_ret ?_ | refine WS_move ?_ | refine WS_assign ?_)
  exact retK_1 ⟨k25.ext, _, _, rfl, Nat.le_refl _, k25.map, k25.len, k25.fns⟩ (.inr rfl)
instance : CallIs Try.prog 77 := .of Try.func77 rfl rfl
theorem look_row (b : ByteArray) {cs : List Value} (hl : cs.length = 25) : ∃ c, (lookB b (rowsOf KT cs)).getD (.agg [.int .i64 0, .int .i64 0, .bool false, .bool false, .string ByteArray.empty, .nilFunc].toArray) = .agg [.int .i64 (arityS b), .int .i64 (halvesS b), .bool (cliffS b), .bool (diagS b), .string (backS b).1, c].toArray ∧ (lookB b (rowsOf KT cs)).isSome = (kOf b).isSome := by
  have h := look_some (b := b) KT cs hl
  unfold arityS halvesS cliffS diagS backS
  cases hk : kOf b with
  | none => unfold kOf at hk; rw [hk] at h; simp only at h; rw [h]; exact ⟨_, rfl, rfl⟩
  | some e => unfold kOf at hk; rw [hk] at h; obtain ⟨c, _, h⟩ := h; rw [h]; exact ⟨c, rfl, rfl⟩
theorem gateArity_spec (b : ByteArray) (h : IHp) : EvX Try.prog 37 [.string b].toArray h (fun v h' => v = .int .i64 (arityS b) ∧ Ext h h') := by
  refine EvX_of Try.func37 rfl (by show 1 ≤ 7; decide) ?_
  repeat' (first | refine V_seq ?_ | refine V_region ?_ | refine WS_nil ?_ | refine S_normal ?_ | refine WS_assign ?_)
  refine WS_call (kinds_spec h) ?_
  rintro _ H ⟨eH, m, cs, rfl, hm, hmap, hl, _⟩
  obtain ⟨c, hc, _⟩ := look_row b hl
  repeat' (refine WS_move ?_)
  refine WS_lookup (mi := hmap) ?_
  rw [hc]
  repeat' (first | refine WS_nil ?_ | refine S_normal ?_ | refine V_ret ?_ | refine WS_assign ?_ | refine WS_field ?_)
  exact retK_1 ⟨rfl, eH⟩ (.inr rfl)
instance : CallIs Try.prog 37 := .of Try.func37 rfl rfl
theorem gateHalves_spec (b : ByteArray) (h : IHp) : EvX Try.prog 39 [.string b].toArray h (fun v h' => v = .int .i64 (halvesS b) ∧ Ext h h') := by
  refine EvX_of Try.func39 rfl (by show 1 ≤ 7; decide) ?_
  repeat' (first | refine V_seq ?_ | refine V_region ?_ | refine WS_nil ?_ | refine S_normal ?_ | refine WS_assign ?_)
  refine WS_call (kinds_spec h) ?_
  rintro _ H ⟨eH, m, cs, rfl, hm, hmap, hl, _⟩
  obtain ⟨c, hc, _⟩ := look_row b hl
  repeat' (refine WS_move ?_)
  refine WS_lookup (mi := hmap) ?_
  rw [hc]
  repeat' (first | refine WS_nil ?_ | refine S_normal ?_ | refine V_ret ?_ | refine WS_assign ?_ | refine WS_field ?_)
  exact retK_1 ⟨rfl, eH⟩ (.inr rfl)
instance : CallIs Try.prog 39 := .of Try.func39 rfl rfl
instance : CallIs Try.prog 41 := .of Try.func41 rfl rfl
theorem gateInverse_spec (b : ByteArray) (h : IHp) : EvX Try.prog 45 [.string b].toArray h (fun v h' => v = .tuple [.string (backS b).1, .int .i64 (backS b).2].toArray ∧ Ext h h') := by
  refine EvX_of Try.func45 rfl (by show 1 ≤ 16; decide) ?_
  repeat' (first | refine V_seq ?_ | refine V_region ?_ | refine WS_nil ?_ | refine S_normal ?_ | refine WS_assign ?_)
  refine WS_call (kinds_spec h) ?_
  rintro _ H ⟨eH, m, cs, rfl, hm, hmap, hl, hfn⟩
  obtain ⟨c, hc, hs⟩ := look_row b hl
  have hcell : CellsOf c [c] := by
    have h := look_some (b := b) KT cs hl
    cases hk : KT.find? (fun e => beqS b e.name) with
    | none => rw [hk] at h; simp only at h; rw [h] at hc; simp at hc; rw [← hc.2.2.2.2.2]; infer_instance
    | some e =>
      rw [hk] at h
      obtain ⟨c', hc', h⟩ := h
      rw [h] at hc
      simp [krow] at hc
      obtain ⟨f, x, y, rfl⟩ := hfn c' hc'
      rw [← hc.2.2.2.2.2]; infer_instance
  repeat' (refine WS_move ?_)
  refine WS_lookup_ok (mi := hmap) ?_
  rw [hc, hs]
  repeat' (first | refine V_seq ?_ | refine V_region ?_ | refine WS_nil ?_ | refine S_normal ?_ | refine V_skip ?_ | refine V_ret ?_ | refine S_ret ?_ | refine WS_move ?_ | refine WS_assign ?_ | refine WS_not ?_ | refine WS_fieldAddr ?_ | refine WS_load ?_ | refine WS_extract ?_ | refine WS_alloc ?_ | refine WS_store rfl ?_ | (refine V_cond ?_ ?_ <;> intro hc <;> try (cases hc; done)))
  · have hn : kOf b = none := by
      cases hk : kOf b with
      | none => rfl
      | some e => rw [hk] at hc; simp at hc
    refine retK_2 ⟨?_, (eH.push' _).putObj eH.fresh⟩ (.inr rfl)
    simp [backS, hn]
  · have hn : ∃ e, kOf b = some e := by
      cases hk : kOf b with
      | none => rw [hk] at hc; simp at hc
      | some e => exact ⟨e, rfl⟩
    obtain ⟨e, hn⟩ := hn
    refine retK_2 ⟨?_, (eH.push' _).putObj eH.fresh⟩ (.inr rfl)
    simp [backS, hn]
instance : CallIs Try.prog 45 := .of Try.func45 rfl rfl
end Go.Ideal

-- Cb
set_option linter.unusedSimpArgs false
set_option linter.unusedVariables false
namespace Go.Ideal
open Go Go.Proofs
/-! ### The reference's switches over the names -/
theorem kOf_mem {b : ByteArray} {e : KE} (h : kOf b = some e) : e ∈ KT ∧ b = e.name := by
  unfold kOf at h
  have h2 := List.find?_some h
  exact ⟨List.mem_of_find?_eq_some h, beqS_iff.1 h2⟩
theorem halvesS_01 (b : ByteArray) : halvesS b = 0 ∨ halvesS b = 1 := by
  unfold halvesS
  cases h : kOf b with
  | none => exact .inl rfl
  | some e =>
    have hall : (KT.all fun e => e.halves == 0 || e.halves == 1) = true := by decide +kernel
    rw [List.all_eq_true] at hall
    have := hall e (kOf_mem h).1
    simpa using this
theorem arityS_03 (b : ByteArray) : 0 ≤ arityS b ∧ arityS b ≤ 3 := by
  unfold arityS
  cases h : kOf b with
  | none => exact ⟨Int.le_refl _, by decide⟩
  | some e =>
    have hall : (KT.all fun e => decide (0 ≤ e.arity) && decide (e.arity ≤ 3)) = true := by decide +kernel
    rw [List.all_eq_true] at hall
    have := hall e (kOf_mem h).1
    simpa using this
instance : CallIs Try.prog 38 := .of Try.func38 rfl rfl
instance : CallIs Try.prog 40 := .of Try.func40 rfl rfl
instance : CallIs Try.prog 42 := .of Try.func42 rfl rfl
end Go.Ideal

-- Cc
set_option linter.unusedSimpArgs false
set_option linter.unusedVariables false
namespace Go.Ideal
open Go Go.Proofs
/-! ### Operations and circuits -/
def ints (xs : List Int) : List Value := xs.map (Value.int .i64)
theorem ints_len (xs : List Int) : (ints xs).length = xs.length := by simp [ints]
theorem ints_get {xs : List Int} {i : Nat} {v : Value} (h : (ints xs)[i]? = some v) : ∃ x, v = .int .i64 x ∧ xs[i]? = some x := by
  simp only [ints, List.getElem?_map, Option.map_eq_some_iff] at h
  obtain ⟨x, h1, rfl⟩ := h
  exact ⟨x, rfl, h1⟩
structure OpD where
  kind : Int
  name : ByteArray
  qs : List Int
  bit : Int
  iff : Bool
  mask : Nat
  value : Nat
def OpD.cells (o : OpD) (a : Option Addr) (l c : Nat) : List Value := [.int .i64 o.kind, .string o.name, .slice a l c, .int .i64 o.bit, .bool o.iff, .int .u64 o.mask, .int .u64 o.value]
def SpotOk (a : Option Addr) (c : Nat) : Prop := ∀ d, a = some d → d.spot = none ∨ c = 0
/-- the cells of an operation -/
def OpC (h : IHp) (cells : List Value) (o : OpD) : Prop := ∃ a l c, cells = o.cells a l c ∧ SlIs h a l c (ints o.qs) ∧ o.mask < 2 ^ 64 ∧ o.value < 2 ^ 64 ∧ c < 2 ^ 63 ∧ SpotOk a c
theorem OpC.ext {h h' : IHp} (e : Ext h h') {cells : List Value} {o : OpD} (x : OpC h cells o) : OpC h' cells o := by
  obtain ⟨a, l, c, h1, h2, h3⟩ := x
  exact ⟨a, l, c, h1, h2.ext e, h3⟩
/-- a slice of operations -/
def OpsV (h : IHp) (a : Option Addr) (l c : Nat) (ops : List OpD) : Prop := ops.length = l ∧ l ≤ c ∧ c < 2 ^ 63 ∧ match a with
  | none => c = 0
  | some a => ∀ (i : Nat) (o : OpD), ops[i]? = some o → ∃ cells, h.row a.block (a.off + i * 7) 7 = some cells ∧ OpC h cells o
theorem OpsV.ext {h h' : IHp} (e : Ext h h') {a : Option Addr} {l c : Nat} {ops : List OpD} (x : OpsV h a l c ops) : OpsV h' a l c ops := by
  obtain ⟨h1, h2, h4, h3⟩ := x
  refine ⟨h1, h2, h4, ?_⟩
  cases a with
  | none => exact h3
  | some a =>
    intro i o hi
    obtain ⟨cells, h4, h5⟩ := h3 i o hi
    exact ⟨cells, row_ext e h4, h5.ext e⟩
theorem OpsV.at {h : IHp} {a : Option Addr} {l c : Nat} {ops : List OpD} (x : OpsV h a l c ops) {i : Int} (h0 : 0 ≤ i) (h1 : i < l) : ∃ b o cells, a = some b ∧ ops[i.toNat]? = some o ∧ RowIs h b.block (b.off + i.toNat * 7) 7 cells ∧ OpC h cells o := by
  obtain ⟨h2, h3, _, h4⟩ := x
  have hi : i.toNat < ops.length := by omega
  cases a with
  | none => simp at h4; omega
  | some b =>
    obtain ⟨cells, h5, h6⟩ := h4 i.toNat ops[i.toNat] (List.getElem?_eq_getElem hi)
    exact ⟨b, ops[i.toNat], cells, rfl, List.getElem?_eq_getElem hi, ⟨h5⟩, h6⟩
structure CircD where
  qubits : Int
  bits : Int
  ops : List OpD
def CircV (h : IHp) (v : Value) (c : CircD) : Prop := ∃ a l k, v = .agg [.int .i64 c.qubits, .int .i64 c.bits, .slice a l k].toArray ∧ OpsV h a l k c.ops
theorem CircV.ext {h h' : IHp} (e : Ext h h') {v : Value} {c : CircD} (x : CircV h v c) : CircV h' v c := by
  obtain ⟨a, l, k, h1, h2⟩ := x
  exact ⟨a, l, k, h1, h2.ext e⟩

/-! ### Is a number in a list? -/
def idxK (x : Int) : List Int → Nat → Int
  | [], _ => -1
  | y :: ys, i => if x = y then i else idxK x ys (i + 1)
theorem idxK_mem (x : Int) : ∀ (ys : List Int) (i : Nat), decide (0 ≤ idxK x ys i) = decide (x ∈ ys) := by
  intro ys
  induction ys with
  | nil => intro i; simp [idxK]
  | cons y ys ih =>
    intro i
    rw [idxK]
    by_cases h : x = y
    · simp [h]
    · rw [if_neg h, ih]; simp [h]
theorem Index_spec (a : Option Addr) (l c : Nat) (ys : List Int) (x : Int) (h : IHp) (hy : SlIs h a l c (ints ys)) (hl : l < 2 ^ 63) : EvX Try.prog 133 [.slice a l c, .int .i64 x].toArray h (fun v h' => v = .int .i64 (idxK x ys 0) ∧ h' = h) := by
  have hlen : ys.length = l := by have := hy.1; rwa [ints_len] at this
  refine EvX_of Try.func133 rfl (by show 2 ≤ 19; decide) ?_
  repeat (first | refine V_seq ?_ | refine V_region ?_ | refine WS_nil ?_ | refine S_normal ?_ | refine V_block ?_ | refine WS_move ?_ | refine WS_assign ?_ | refine WS_len_slice ?_)
  refine V_loop (fun d s h' => ∃ i : Nat, d = l - i ∧ i ≤ l ∧ Get s 8 (.int .i64 i) ∧ Get s 7 (.int .i64 l) ∧ Get s 0 (.slice a l c) ∧ Get s 1 (.int .i64 x) ∧ h' = h ∧ idxK x ys 0 = idxK x (ys.drop i) i) l ⟨0, by omega, by omega, inferInstanceAs (Get _ 8 (.int .i64 0)), inferInstance, inferInstance, inferInstance, rfl, rfl⟩ ?_
  rintro d s h' ⟨i, rfl, hi, g8, g7, g0, g1, rfl, hK⟩
  repeat' (first | refine V_seq ?_ | refine V_region ?_ | refine WS_nil ?_ | refine S_normal ?_ | refine V_block ?_ | refine V_skip ?_ | refine V_exit ?_ | refine V_ret ?_ | refine S_exit ?_ | refine B_exit ?_ | refine WS_move ?_ | refine WS_assign ?_ | refine WS_cmp rfl ?_ | (refine V_cond ?_ ?_ <;> intro hc <;> try (cases hc; done)))
  · have hil : i < l := by simp at hc; omega
    obtain ⟨b, v, rfl, hv, c1⟩ := hy.at (i := (i : Int)) (by omega) (by omega)
    rw [Int.toNat_natCast] at hv
    obtain ⟨y, rfl, hy1⟩ := ints_get hv
    have hb : 0 ≤ (i : Int) ∧ (i : Int) < (l : Int) := by omega
    have hd : ys.drop i = y :: ys.drop (i + 1) := by
      rw [List.drop_eq_getElem_cons (by omega)]
      rw [List.getElem?_eq_getElem (by omega)] at hy1
      rw [Option.some.inj hy1]
    rw [hd, idxK] at hK
    repeat' (first | refine V_seq ?_ | refine V_region ?_ | refine WS_nil ?_ | refine S_normal ?_ | refine B_normal ?_ | refine V_skip ?_ | refine V_ret ?_ | refine S_ret ?_ | refine B_ret ?_ | refine WS_move ?_ | refine WS_assign ?_ | refine WS_cmp rfl ?_ | refine WS_addi (by omega) ?_ | refine WS_load ?_ | refine WS_indexAddr (by first | decide | omega) ?_ | (refine V_cond ?_ ?_ <;> intro hc <;> try (cases hc; done)))
    · refine retK_1 ⟨?_, rfl⟩ (.inr rfl)
      rw [hK, if_pos (by simpa using hc)]
    · refine ⟨_, ?_, i + 1, rfl, by omega, ?_, inferInstance, inferInstance, inferInstance, rfl, ?_⟩
      · omega
      · exact get_as (v := .int .i64 ((i : Int) + 1)) (by simp)
      · rw [hK, if_neg (by simpa using hc)]
  · have hil : i = l := by simp at hc; omega
    refine retK_1 ⟨?_, rfl⟩ (.inr rfl)
    rw [hK, List.drop_of_length_le (by omega)]; rfl
instance : CallIs Try.prog 133 := .of Try.func133 rfl rfl
theorem Contains_spec (a : Option Addr) (l c : Nat) (ys : List Int) (x : Int) (h : IHp) (hy : SlIs h a l c (ints ys)) (hl : l < 2 ^ 63) : EvX Try.prog 112 [.slice a l c, .int .i64 x].toArray h (fun v h' => v = .bool (decide (x ∈ ys)) ∧ h' = h) := by
  refine EvX_of Try.func112 rfl (by show 2 ≤ 9; decide) ?_
  repeat' (first | refine V_seq ?_ | refine V_region ?_ | refine WS_nil ?_ | refine S_normal ?_ | refine WS_move ?_ | refine WS_assign ?_)
  refine WS_call (Index_spec a l c ys x h hy hl) ?_
  rintro _ _ ⟨rfl, rfl⟩
  repeat' (first | refine WS_nil ?_ | refine S_normal ?_ | refine V_ret ?_ | refine WS_assign ?_ | refine WS_cmp rfl ?_)
  refine retK_1 ⟨?_, rfl⟩ (.inr rfl)
  rw [idxK_mem]
instance : CallIs Try.prog 112 := .of Try.func112 rfl rfl

/-! ### halves -/
def halvesO (o : OpD) : Int := if o.kind = 1 then halvesS o.name else 0
theorem halvesO_01 (o : OpD) : 0 ≤ halvesO o ∧ halvesO o ≤ 1 := by
  unfold halvesO
  split
  · rcases halvesS_01 o.name with h | h <;> omega
  · omega
theorem halves_spec (o : OpD) (a : Option Addr) (l c : Nat) (h : IHp) : EvX Try.prog 75 [.agg (o.cells a l c).toArray].toArray h (fun v h' => v = .int .i64 (halvesO o) ∧ Ext h h') := by
  refine EvX_of Try.func75 rfl (by show 1 ≤ 9; decide) ?_
  unfold OpD.cells
  repeat' (first | refine V_seq ?_ | refine V_region ?_ | refine WS_nil ?_ | refine S_normal ?_ | refine V_skip ?_ | refine V_ret ?_ | refine S_ret ?_ | refine WS_assign ?_ | refine WS_cmp rfl ?_ | refine WS_fieldAddr ?_ | refine WS_load ?_ | refine WS_box_agg rfl ?_ | (refine V_cond ?_ ?_ <;> intro hc <;> try (cases hc; done)))
  · refine retK_1 ⟨?_, Ext.push _ _⟩ (.inr rfl)
    rw [halvesO, if_neg (by simpa using hc)]
  · refine WS_call (gateHalves_spec o.name _) ?_
    rintro _ H ⟨rfl, eH⟩
    repeat' (first | refine WS_nil ?_ | refine S_normal ?_ | refine V_ret ?_ | refine WS_assign ?_)
    refine retK_1 ⟨?_, (Ext.push _ _).trans eH⟩ (.inr rfl)
    rw [halvesO, if_pos (by simpa using hc)]
instance : CallIs Try.prog 75 := .of Try.func75 rfl rfl
instance : CallIs Try.prog 99 := .of Try.func99 rfl rfl
end Go.Ideal

-- La
set_option linter.unusedSimpArgs false
set_option linter.unusedVariables false
namespace Go.Ideal
open Go Go.Proofs
/-! ### Words of 64 bits -/
def u64s (xs : List Nat) : List Value := xs.map fun (x : Nat) => Value.int .u64 (x : Int)
theorem u64s_len (xs : List Nat) : (u64s xs).length = xs.length := by simp [u64s]
theorem u64s_at {xs : List Nat} {i : Nat} {v : Value} (h : (u64s xs)[i]? = some v) : ∃ x : Nat, v = .int .u64 x ∧ xs[i]? = some x := by
  simp only [u64s, List.getElem?_map, Option.map_eq_some_iff] at h
  obtain ⟨x, h1, rfl⟩ := h
  exact ⟨x, rfl, h1⟩
theorem wrap_u64_id {z : Int} (h0 : 0 ≤ z) (h : z < 2 ^ 64) : IntKind.u64.wrap z = z := by
  simp only [IntKind.wrap, IntKind.bits, IntKind.signed]; simp; omega
theorem bvNat {x : Nat} (h : x < 2 ^ 64) : (BitVec.ofInt IntKind.u64.bits (x : Int)).toNat = x := by
  have hb : IntKind.u64.bits = 64 := rfl
  simp only [BitVec.toNat_ofInt, hb]
  omega
theorem and_u64 {a b : Nat} (ha : a < 2 ^ 64) (hb : b < 2 ^ 64) : ibits .and .u64 a b = (a &&& b : Nat) := by
  show IntKind.u64.wrap (((BitVec.ofInt IntKind.u64.bits a) &&& (BitVec.ofInt IntKind.u64.bits b)).toNat : Int) = _
  rw [BitVec.toNat_and, bvNat ha, bvNat hb]
  have := Nat.and_lt_two_pow a hb
  exact wrap_u64_id (by omega) (by omega)
theorem or_u64 {a b : Nat} (ha : a < 2 ^ 64) (hb : b < 2 ^ 64) : ibits .or .u64 a b = (a ||| b : Nat) := by
  show IntKind.u64.wrap (((BitVec.ofInt IntKind.u64.bits a) ||| (BitVec.ofInt IntKind.u64.bits b)).toNat : Int) = _
  rw [BitVec.toNat_or, bvNat ha, bvNat hb]
  have := Nat.or_lt_two_pow ha hb
  exact wrap_u64_id (by omega) (by omega)
theorem xor_u64 {a b : Nat} (ha : a < 2 ^ 64) (hb : b < 2 ^ 64) : ibits .xor .u64 a b = (a ^^^ b : Nat) := by
  show IntKind.u64.wrap (((BitVec.ofInt IntKind.u64.bits a) ^^^ (BitVec.ofInt IntKind.u64.bits b)).toNat : Int) = _
  rw [BitVec.toNat_xor, bvNat ha, bvNat hb]
  have := Nat.xor_lt_two_pow ha hb
  exact wrap_u64_id (by omega) (by omega)
theorem shr_u64 {a : Nat} {n : Int} (h0 : 0 ≤ n) (ha : a < 2 ^ 64) : ((a : Int)).fdiv (2 ^ min n.toNat IntKind.u64.bits) = (a >>> n.toNat : Nat) := by
  have hb : IntKind.u64.bits = 64 := rfl
  rw [hb, Nat.shiftRight_eq_div_pow]
  have h2 : (2 : Int) ^ min n.toNat 64 = ((2 ^ min n.toNat 64 : Nat) : Int) := by simp
  rw [h2, Int.fdiv_eq_ediv_of_nonneg _ (Int.natCast_nonneg _), ← Int.natCast_ediv]
  congr 1
  by_cases hn : n.toNat ≤ 64
  · rw [Nat.min_eq_left hn]
  · rw [Nat.min_eq_right (by omega), Nat.div_eq_of_lt ha, Nat.div_eq_of_lt]
    exact Nat.lt_of_lt_of_le ha (Nat.pow_le_pow_right (by decide) (by omega))
def belowS (n : Int) (x : Nat) : Bool := decide (64 ≤ n) || decide (x >>> n.toNat = 0)
theorem below_spec (x : Nat) (hx : x < 2 ^ 64) (n : Int) (hn : 0 ≤ n) (h : IHp) : EvX Try.prog 63 [.int .u64 x, .int .i64 n].toArray h (fun v h' => v = .bool (belowS n x) ∧ h' = h) := by
  refine EvX_of Try.func63 rfl (by show 2 ≤ 13; decide) ?_
  repeat' (first | refine V_seq ?_ | refine V_region ?_ | refine WS_nil ?_ | refine S_normal ?_ | refine V_ret ?_ | refine WS_off rfl (by first | rfl | assumption) ?_ | refine WS_on rfl (by first | rfl | assumption) ?_ | refine WS_move ?_ | refine WS_assign ?_ | refine WS_pick_t (by first | rfl | assumption) ?_ | refine WS_pick_f (by first | rfl | assumption) ?_ | refine WS_cmp rfl ?_ | refine WS_shift (by first | decide | omega) rfl ?_ | (refine WS_guard rfl ?_ ?_ <;> intro hg))
  · refine retK_1 ⟨?_, rfl⟩ (.inr rfl)
    rw [shr_u64 hn hx]
    simp only [belowS, hg, Bool.false_or]
    exact congrArg Value.bool (decide_eq_decide.2 Int.natCast_eq_zero)
  · refine retK_1 ⟨?_, rfl⟩ (.inr rfl)
    simp at hg
    simp [hg, belowS]
instance : CallIs Try.prog 65 := .of Try.func65 rfl rfl
instance : CallIs Try.prog 63 := .of Try.func63 rfl rfl
def checkS (N : Int) (xs : List Nat) : Int := if N < 0 ∨ 64 < N ∨ (xs.length : Int) ≠ N then 2 else if xs.all (belowS N) then 0 else 2
theorem Check_spec (N : Int) (a : Option Addr) (len cap : Nat) (xs : List Nat) (h : IHp) (hx : SlIs h a len cap (u64s xs)) (h64 : ∀ x ∈ xs, x < 2 ^ 64) :
    EvX Try.prog 21 [.agg [.int .i64 N, .slice a len cap].toArray].toArray h (fun v h' => v = .int .i64 (checkS N xs) ∧ Ext h h') := by
  have hlen : xs.length = len := by have := hx.1; simpa [u64s] using this
  refine EvX_of Try.func21 rfl (by show 1 ≤ 34; decide) ?_
  repeat' (first | refine V_seq ?_ | refine V_region ?_ | refine WS_nil ?_ | refine S_normal ?_ | refine V_block ?_ | refine V_skip ?_ | refine V_ret ?_ | refine S_ret ?_ | refine WS_off rfl (by first | rfl | assumption) ?_ | refine WS_on rfl (by first | rfl | assumption) ?_ | refine WS_move ?_ | refine WS_assign ?_ | refine WS_pick_t (by first | rfl | assumption) ?_ | refine WS_pick_f (by first | rfl | assumption) ?_ | refine WS_cmp rfl ?_ | refine WS_len_slice ?_ | refine WS_fieldAddr ?_ | refine WS_load ?_ | refine WS_box_agg rfl ?_ | (refine WS_guard rfl ?_ ?_ <;> intro hg) | (refine V_cond ?_ ?_ <;> intro hc <;> try (cases hc; done)))
  · refine retK_1 ⟨?_, Ext.push _ _⟩ (.inr rfl)
    simp only [checkS]; rw [if_pos]; simp at hc; omega
  · have hN : ¬ N < 0 ∧ ¬ 64 < N ∧ (len : Int) = N := by simp_all
    obtain ⟨H, hH⟩ : ∃ H, H = h.push (IObj.cells [Value.int IntKind.i64 N, Value.slice a len cap] 27 true) := ⟨_, rfl⟩
    have eH : Ext h H := hH ▸ Ext.push _ _
    have c0 : CellIs H h.fresh (0 + 0) (.int .i64 N) := hH ▸ inferInstance
    rw [← hH]
    refine V_loop (fun d s h' => ∃ i : Int, d = (len - i).toNat ∧ 0 ≤ i ∧ i ≤ len ∧ Get s 24 (.int .i64 i) ∧ Get s 23 (.int .i64 len) ∧ Get s 22 (.slice a len cap) ∧ Get s 1 (.pointer (some (ad h.fresh 0))) ∧ h' = H ∧ (xs.take i.toNat).all (belowS N) = true) len ⟨0, by omega, by omega, by omega, inferInstance, inferInstance, inferInstance, inferInstance, rfl, by simp⟩ ?_
    rintro d s h' ⟨i, rfl, hi0, hi1, g24, g23, g22, g1, rfl, hP⟩
    repeat' (first | refine V_seq ?_ | refine V_region ?_ | refine WS_nil ?_ | refine S_normal ?_ | refine V_block ?_ | refine V_skip ?_ | refine V_exit ?_ | refine V_ret ?_ | refine S_exit ?_ | refine B_exit ?_ | refine WS_assign ?_ | refine WS_cmp rfl ?_ | (refine V_cond ?_ ?_ <;> intro hc <;> try (cases hc; done)))
    · have hi : i < len := by simpa using hc
      obtain ⟨b, v, rfl, hv, c1⟩ := (hx.ext eH).at hi0 hi
      obtain ⟨x, rfl, hx1⟩ := u64s_at hv
      repeat' (first | refine V_seq ?_ | refine V_region ?_ | refine WS_nil ?_ | refine S_normal ?_ | refine WS_move ?_ | refine WS_assign ?_ | refine WS_fieldAddr ?_ | refine WS_load ?_ | refine WS_indexAddr (by first | decide | omega) ?_)
      refine WS_call (below_spec x (h64 x (List.mem_of_getElem? hx1)) N (by omega) _) ?_
      rintro _ _ ⟨rfl, rfl⟩
      repeat' (first | refine V_seq ?_ | refine V_region ?_ | refine WS_nil ?_ | refine S_normal ?_ | refine B_normal ?_ | refine V_skip ?_ | refine V_ret ?_ | refine S_ret ?_ | refine B_ret ?_ | refine WS_move ?_ | refine WS_assign ?_ | refine WS_addi (by omega) ?_ | refine WS_not ?_ | (refine V_cond ?_ ?_ <;> intro hc <;> try (cases hc; done)))
      · refine retK_1 ⟨?_, eH⟩ (.inr rfl)
        simp only [checkS]; rw [if_neg (by omega), if_neg]
        intro hall
        rw [List.all_eq_true] at hall
        have := hall x (List.mem_of_getElem? hx1)
        simp_all
      · refine ⟨_, ?_, i + 1, rfl, by omega, by omega, inferInstance, inferInstance, inferInstance, inferInstance, rfl, ?_⟩
        · omega
        · have : (i + 1).toNat = i.toNat + 1 := by omega
          rw [this, List.take_add_one, hx1]
          simp_all
    · have hi : i = len := by simp at hc; omega
      refine retK_1 ⟨?_, eH⟩ (.inr rfl)
      simp only [checkS]; rw [if_neg (by omega), if_pos]
      rw [hi, Int.toNat_natCast, List.take_of_length_le (by omega)] at hP
      exact hP
  · refine retK_1 ⟨?_, Ext.push _ _⟩ (.inr rfl)
    simp only [checkS]; rw [if_pos]; simp at hg; omega
  · refine retK_1 ⟨?_, Ext.push _ _⟩ (.inr rfl)
    simp only [checkS]; rw [if_pos]; simp at hg; omega
instance : CallIs Try.prog 21 := .of Try.func21 rfl rfl
def eyeS (n : Int) : List Nat := (List.range n.toNat).map fun i => 2 ^ i
theorem eyeS_succ {i : Int} (h : 0 ≤ i) : u64s (eyeS (i + 1)) = u64s (eyeS i) ++ [.int .u64 (2 ^ i.toNat : Nat)] := by
  have : (i + 1).toNat = i.toNat + 1 := by omega
  simp [u64s, eyeS, this, List.range_succ]
theorem eyeS_len {i : Int} : (u64s (eyeS i)).length = i.toNat := by simp [u64s, eyeS]
theorem shl_one {i : Int} (h0 : 0 ≤ i) (h1 : i < 64) : IntKind.u64.wrap (1 * 2 ^ min i.toNat IntKind.u64.bits) = (2 ^ i.toNat : Nat) := by
  have h2 : min i.toNat IntKind.u64.bits = i.toNat := by simp only [IntKind.bits]; omega
  have h3 : (2 : Int) ^ i.toNat < 2 ^ 64 := Int.pow_lt_pow_of_lt (by decide) (by omega)
  have h4 : (0 : Int) ≤ 2 ^ i.toNat := Int.pow_nonneg (by decide)
  rw [h2, Int.one_mul, wrap_u64_id h4 h3]
  simp
theorem Eye_spec (n : Int) (h : IHp) : EvX Try.prog 23 [.int .i64 n].toArray h (fun v h' => Ext h h' ∧ if 0 ≤ n ∧ n ≤ 64 then ∃ sl, v = .tuple [.agg [.int .i64 n, sl].toArray, .int .i64 0].toArray ∧ Lst h.fresh h' sl (u64s (eyeS n)) 28 else v = .tuple [.agg [.int .i64 0, .slice none 0 0].toArray, .int .i64 2].toArray) := by
  refine EvX_of Try.func23 rfl (by show 1 ≤ 28; decide) ?_
  repeat' (first | refine V_seq ?_ | refine V_region ?_ | refine WS_nil ?_ | refine S_normal ?_ | refine V_block ?_ | refine V_skip ?_ | refine V_ret ?_ | refine S_ret ?_ | refine WS_off rfl (by first | rfl | assumption) ?_ | refine WS_on rfl (by first | rfl | assumption) ?_ | refine WS_move ?_ | refine WS_assign ?_ | refine WS_pick_t (by first | rfl | assumption) ?_ | refine WS_pick_f (by first | rfl | assumption) ?_ | refine WS_cmp rfl ?_ | refine WS_build ?_ | refine WS_alloc ?_ | refine WS_store rfl ?_ | (refine WS_guard rfl ?_ ?_ <;> intro hg) | (refine V_cond ?_ ?_ <;> intro hc <;> try (cases hc; done)))
  · refine retK_ct ⟨(Ext.push h _).putObj (Nat.le_refl _), ?_⟩ (.inr rfl)
    rw [if_neg (by simp at hc; omega)]
  · have hn : 0 ≤ n ∧ n ≤ 64 := by simp at hc hg; omega
    refine V_loop (fun d s h' => ∃ (i : Int) (sl : Value), d = (n - i).toNat ∧ 0 ≤ i ∧ i ≤ n ∧ Get s 16 (.int .i64 i) ∧ Get s 15 (.int .i64 n) ∧ Get s 4 (.pointer (some (ad (h.fresh + 2) 0))) ∧ Get s 2 (.pointer (some (ad h.fresh 0))) ∧ Ext h h' ∧ ObjIs h' h.fresh [.int .i64 0, .slice none 0 0] 27 true ∧ ObjIs h' (h.fresh + 2) [.int .i64 n, sl] 27 true ∧ Lst h.fresh h' sl (u64s (eyeS i)) 28 ∧ blockOf sl ≠ some h.fresh ∧ blockOf sl ≠ some (h.fresh + 2)) n.toNat ?_ ?_
    · rw [push_fresh]
      have nb : NeB h.fresh (h.fresh + 2) := ⟨by unfold IHp.fresh; omega⟩
      have ob : ObjIs ((h.push (IObj.cells [Value.int IntKind.i64 0, Value.slice none 0 0] 27 true)).push (IObj.cells [Value.int IntKind.i64 0, Value.slice none 0 0] 27 true)) (h.fresh + 2) [Value.int IntKind.i64 0, Value.slice none 0 0] 27 true := by
        rw [← push_fresh h (IObj.cells [Value.int IntKind.i64 0, Value.slice none 0 0] 27 true)]; infer_instance
      exact ⟨0, .slice none 0 0, by omega, by omega, by omega, inferInstance, inferInstance, inferInstance, inferInstance, (((Ext.push h _).push' _).putObj (by omega)), inferInstance, inferInstance, .inl ⟨rfl, rfl⟩, by simp [blockOf], by simp [blockOf]⟩
    rintro d s h' ⟨i, sl, rfl, hi0, hi1, g16, g15, g4, g2, eX, o2, o4, hL, hb2, hb4⟩
    repeat' (first | refine V_seq ?_ | refine V_region ?_ | refine WS_nil ?_ | refine S_normal ?_ | refine V_block ?_ | refine V_skip ?_ | refine V_exit ?_ | refine S_exit ?_ | refine B_exit ?_ | refine WS_move ?_ | refine WS_assign ?_ | refine WS_cmp rfl ?_ | refine WS_load_agg ?_ | (refine V_cond ?_ ?_ <;> intro hc <;> try (cases hc; done)))
    · have hi : i < n := by simpa using hc
      obtain ⟨a, rfl⟩ := hL.isSlice
      refine V_draw (plan := [.take 0, .take 1, .take 2, .take 3, .one 4, .one 5, .take 6, .one 7]) (by kernel_rfl) ?_
      repeat' (first | refine WS_nil ?_ | refine WS_move ?_ | refine WS_fieldAddr ?_ | refine WS_shift (by first | decide | omega) rfl ?_ | refine WS_buildSlice (by decide) rfl rfl (by simp [Value.cells]) ?_ | refine WDK_go ?_ | refine WDT_go ?_ | refine WD_load rfl ?_ | refine WD_take rfl rfl ?_ | refine WD_drop rfl rfl ?_ | refine WD_one rfl ?_)
      have h64 : i < 64 := by omega
      rw [shl_one hi0 h64]
      refine WS_append1 (lo := h.fresh) (hL.ext (Ext.push _ _)) (by rw [push_fresh]; have := eX.fresh; omega) (by rw [eyeS_len]; omega) ?_
      intro v' h2 hL2 m2 hb
      have p2 : ObjIs h2 h.fresh [.int .i64 0, .slice none 0 0] 27 true := m2.obj inferInstance hb2
      have p4 : ObjIs h2 (h.fresh + 2) _ 27 true := m2.obj inferInstance hb4
      have e2 : Ext h h2 := m2.ext (eX.push' _) (hL.ext (Ext.push _ _))
      have hn4 : h.fresh + 2 < (h'.push (IObj.cells [Value.int IntKind.u64 (2 ^ i.toNat : Nat)] 28 true)).fresh := by have := o4.lt; rw [push_fresh]; omega
      obtain ⟨a', rfl⟩ := hL2.isSlice
      have nb : NeB h.fresh (h.fresh + 2) := ⟨by unfold IHp.fresh; omega⟩
      repeat' (first | refine V_region ?_ | refine WS_nil ?_ | refine S_normal ?_ | refine B_normal ?_ | refine WS_move ?_ | refine WS_addi (by omega) ?_ | refine WS_fieldAddr ?_ | refine WS_store rfl ?_ | refine WDK_go ?_ | refine WDT_go ?_ | refine WD_nil ?_ | refine WD_take rfl rfl ?_ | refine WD_drop rfl rfl ?_)
      refine ⟨_, ?_, i + 1, _, rfl, by omega, by omega, inferInstance, inferInstance, inferInstance, inferInstance, e2.putObj (by omega), inferInstance, inferInstance, ?_, ?_, ?_⟩
      · omega
      · rw [eyeS_succ hi0]; exact hL2.put (by rw [hb]; intro hh; have := Option.some.inj hh; omega) o4.even
      · rw [hb]; intro hh; have := Option.some.inj hh; omega
      · rw [hb]; intro hh; have := Option.some.inj hh; omega
    · have hi : i = n := by simp at hc; omega
      subst hi
      obtain ⟨a, rfl⟩ := hL.isSlice
      repeat' (first | refine WS_nil ?_ | refine S_normal ?_ | refine V_ret ?_ | refine WS_assign ?_ | refine WS_store rfl ?_)
      have nb : NeB (h.fresh + 2) h.fresh := ⟨by unfold IHp.fresh; omega⟩
      refine retK_ct ⟨eX.putObj (Nat.le_refl _), ?_⟩ (.inr rfl)
      rw [if_pos hn]
      exact ⟨_, rfl, hL.put hb2 o2.even⟩
  · refine retK_ct ⟨(Ext.push h _).putObj (Nat.le_refl _), ?_⟩ (.inr rfl)
    rw [if_neg (by simp at hg; omega)]
instance : CallIs Try.prog 23 := .of Try.func23 rfl rfl
end Go.Ideal

-- Cd
set_option linter.unusedSimpArgs false
set_option linter.unusedVariables false
namespace Go.Ideal
open Go Go.Proofs
/-! ### The shape of an operation -/
def beyondS (x : Nat) (n : Int) : Bool := decide (n < 64) && !decide ((x >>> n.toNat : Nat) = (0 : Int))
instance : CallIs Try.prog 140 := .of Try.func140 rfl rfl
def anS (v m : Nat) : Int := ibits .andNot .u64 v m
def bad1 (o : OpD) : Bool := decide (o.kind < 1) || decide (3 < o.kind)
def bad2 (o : OpD) : Bool := !o.iff && (!decide ((o.mask : Int) = 0) || !decide ((o.value : Int) = 0))
def bad3 (o : OpD) (bits : Int) : Bool := o.iff && (decide ((o.mask : Int) = 0) || beyondS o.mask bits || !decide (anS o.value o.mask = 0))
def bad4 (o : OpD) : Bool := (!decide (o.kind = 1) && !beqS o.name ⟨#[]⟩) || (!decide (o.kind = 2) && !decide (o.bit = 0))
def shapeBad (o : OpD) (bits : Int) : Bool := bad1 o || bad2 o || bad3 o bits || bad4 o
instance : CallIs Try.prog 122 := .of Try.func122 rfl rfl
end Go.Ideal

-- Ce
set_option linter.unusedSimpArgs false
set_option linter.unusedVariables false
namespace Go.Ideal
open Go Go.Proofs
/-! ### What an operation by itself is refused for -/
def outS (q x : Int) : Bool := decide (x < 0) || decide (q ≤ x)
def nS (o : OpD) : Int := if o.kind = 1 then arityS o.name else 1
def bitBad (o : OpD) (bits : Int) : Bool := decide (o.kind = 2) && (decide (o.bit < 0) || decide (bits ≤ o.bit))
def dupK (qs : List Int) : Nat → Bool
  | 0 => false
  | i + 1 => dupK qs i || decide (qs.getD i 0 ∈ qs.take i)
theorem dupK_more {qs : List Int} {i : Nat} (h : dupK qs i = true) : ∀ n, i ≤ n → dupK qs n = true := by
  intro n hn
  induction hn with
  | refl => exact h
  | step _ ih => rw [dupK, ih]; rfl
def faultS (o : OpD) (q bits : Int) : Int :=
  if shapeBad o bits = true then 120
  else if o.kind = 1 ∧ arityS o.name = 0 then 80
  else if (o.qs.length : Int) ≠ nS o then 111
  else if o.qs.any (outS q) = true then 112
  else if bitBad o bits = true then 112
  else if dupK o.qs o.qs.length = true then 113
  else 0
theorem any_take {qs : List Int} {p : Int → Bool} {i : Nat} {x : Int} (h : (qs.take i).any p = false) (hx : qs[i]? = some x) (hp : p x = false) : (qs.take (i + 1)).any p = false := by
  rw [List.take_add_one, List.any_append, h, hx]; simp [hp]
theorem any_at {qs : List Int} {p : Int → Bool} {i : Nat} {x : Int} (hx : qs[i]? = some x) (hp : p x = true) : qs.any p = true :=
  List.any_eq_true.2 ⟨x, List.mem_of_getElem? hx, hp⟩
theorem getD_at {qs : List Int} {i : Nat} {x : Int} (hx : qs[i]? = some x) : qs.getD i 0 = x := by simp [List.getD_eq_getElem?_getD, hx]
instance : CallIs Try.prog 98 := .of Try.func98 rfl rfl
end Go.Ideal

-- Cf
set_option linter.unusedSimpArgs false
set_option linter.unusedVariables false
namespace Go.Ideal
open Go Go.Proofs
/-! ### circuit.fault -/
def bmS (bits : Int) : Nat := if bits = 64 then 2 ^ 64 - 1 else 2 ^ bits.toNat - 1
def knownS (o : OpD) : Bool := decide (o.kind = 1) || decide (o.kind = 2) || decide (o.kind = 3)
def bad5 (o : OpD) (bits : Int) : Bool := !knownS o || (o.iff && decide ((o.mask : Int) = 0)) || (!o.iff && (!decide ((o.mask : Int) = 0) || !decide ((o.value : Int) = 0))) || !decide (anS o.mask (bmS bits) = 0) || !decide (anS o.value o.mask = 0)
theorem bmS_lt {bits : Int} (hb : 0 ≤ bits ∧ bits ≤ 64) : bmS bits < 2 ^ 64 := by
  unfold bmS
  split
  · decide
  · have : 2 ^ bits.toNat ≤ 2 ^ 64 := Nat.pow_le_pow_right (by decide) (by omega)
    have : 0 < 2 ^ bits.toNat := Nat.pow_pos (by decide)
    omega
theorem anS_zero {v m : Nat} (hv : v < 2 ^ 64) (hm : m < 2 ^ 64) : anS v m = 0 ↔ ∀ i, v.testBit i = true → m.testBit i = true := by
  have h1 : anS v m = (((BitVec.ofNat 64 v) &&& ~~~(BitVec.ofNat 64 m)).toNat : Int) := by
    show IntKind.u64.wrap (((BitVec.ofInt 64 v) &&& ~~~(BitVec.ofInt 64 m)).toNat : Int) = _
    rw [BitVec.ofInt_natCast, BitVec.ofInt_natCast]
    have hlt : ((BitVec.ofNat 64 v) &&& ~~~(BitVec.ofNat 64 m)).toNat < 2 ^ 64 := BitVec.isLt _
    exact wrap_u64_id (Int.natCast_nonneg _) (by omega)
  rw [h1]
  have h2 : ((((BitVec.ofNat 64 v) &&& ~~~(BitVec.ofNat 64 m)).toNat : Nat) : Int) = 0 ↔ ((BitVec.ofNat 64 v) &&& ~~~(BitVec.ofNat 64 m)) = 0#64 := by
    constructor
    · intro h; apply BitVec.eq_of_toNat_eq; simpa using (Int.natCast_eq_zero.1 h)
    · intro h; rw [h]; rfl
  rw [h2]
  constructor
  · intro h i hi
    have hi64 : i < 64 := by
      apply Decidable.byContradiction
      intro hc
      rw [Nat.testBit_lt_two_pow (Nat.lt_of_lt_of_le hv (Nat.pow_le_pow_right (by decide) (by omega)))] at hi
      cases hi
    have h3 := congrArg (fun b => b.getLsbD i) h
    simp only [BitVec.getLsbD_and, BitVec.getLsbD_not, BitVec.getLsbD_ofNat, hi64, decide_true, Bool.true_and, hi, BitVec.getLsbD_zero] at h3
    simpa using h3
  · intro h
    apply BitVec.eq_of_getLsbD_eq
    intro i hi
    simp only [BitVec.getLsbD_and, BitVec.getLsbD_not, BitVec.getLsbD_ofNat, hi, decide_true, Bool.true_and, BitVec.getLsbD_zero]
    cases hvi : v.testBit i with
    | false => simp
    | true => rw [h i hvi]; simp
theorem beyond_an {x : Nat} {bits : Int} (hx : x < 2 ^ 64) (hb : 0 ≤ bits ∧ bits ≤ 64) : (!decide (anS x (bmS bits) = 0)) = beyondS x bits := by
  have hbit : ∀ i, (bmS bits).testBit i = decide (i < bits.toNat) := by
    intro i
    unfold bmS
    split
    · rename_i h
      rw [Nat.testBit_two_pow_sub_one, h]; rfl
    · rw [Nat.testBit_two_pow_sub_one]
  have key : anS x (bmS bits) = 0 ↔ beyondS x bits = false := by
    rw [anS_zero hx (bmS_lt hb)]
    unfold beyondS
    rw [Nat.shiftRight_eq_div_pow]
    constructor
    · intro h
      by_cases h64 : bits < 64
      · have hlt : x < 2 ^ bits.toNat := by
          apply Nat.lt_pow_two_of_testBit
          intro i hi
          cases hxi : x.testBit i with
          | false => rfl
          | true => have := h i hxi; rw [hbit] at this; simp at this; omega
        simp [h64, Nat.div_eq_of_lt hlt]
      · simp [h64]
    · intro h i hi
      rw [hbit]
      by_cases h64 : bits < 64
      · simp only [h64, decide_true, Bool.true_and, Bool.not_eq_false', decide_eq_true_eq] at h
        have hlt : x < 2 ^ bits.toNat := by
          have h0 : x / 2 ^ bits.toNat = 0 := Int.natCast_eq_zero.1 h
          exact (Nat.div_eq_zero_iff_lt (Nat.pow_pos (by decide))).1 h0
        apply Decidable.byContradiction
        intro hc
        rw [Nat.testBit_lt_two_pow (Nat.lt_of_lt_of_le hlt (Nat.pow_le_pow_right (by decide) (by simp at hc; omega)))] at hi
        cases hi
      · apply Decidable.byContradiction
        intro hc
        rw [Nat.testBit_lt_two_pow (Nat.lt_of_lt_of_le hx (Nat.pow_le_pow_right (by decide) (by simp at hc; omega)))] at hi
        cases hi
  cases hc : beyondS x bits with
  | false => rw [decide_eq_true (key.2 hc)]; rfl
  | true => rw [decide_eq_false (fun h => by rw [key.1 h] at hc; cases hc)]; rfl
theorem bad_same {o : OpD} {bits : Int} (hm : o.mask < 2 ^ 64) (hv : o.value < 2 ^ 64) (hb : 0 ≤ bits ∧ bits ≤ 64) : (bad5 o bits || bad4 o) = shapeBad o bits := by
  unfold bad5 shapeBad
  rw [beyond_an hm hb]
  have hk : (!knownS o) = bad1 o := by
    unfold knownS bad1
    by_cases h1 : o.kind = 1
    · simp [h1]
    by_cases h2 : o.kind = 2
    · simp [h2]
    by_cases h3 : o.kind = 3
    · simp [h3]
    simp only [h1, h2, h3, decide_false, Bool.or_false, Bool.not_false]
    symm
    rw [Bool.or_eq_true, decide_eq_true_eq, decide_eq_true_eq]
    omega
  rw [hk]
  have hz : beyondS 0 bits = false := by simp [beyondS]
  have ha : anS 0 0 = 0 := (anS_zero (by decide) (by decide)).2 fun i hi => by simp at hi
  cases hi : o.iff with
  | true =>
    simp only [bad2, bad3, hi, Bool.true_and, Bool.not_true, Bool.false_and, Bool.or_false]
    cases bad1 o <;> cases decide ((o.mask : Int) = 0) <;> cases beyondS o.mask bits <;> cases decide (anS o.value o.mask = 0) <;> cases bad4 o <;> rfl
  | false =>
    simp only [bad2, bad3, hi, Bool.true_and, Bool.not_false, Bool.false_and, Bool.or_false]
    by_cases h1 : (o.mask : Int) = 0
    · by_cases h2 : (o.value : Int) = 0
      · have e1 : o.mask = 0 := by omega
        have e2 : o.value = 0 := by omega
        rw [e1, e2, hz, ha]
        cases bad1 o <;> cases bad4 o <;> rfl
      · simp only [h1, h2, decide_true, decide_false, Bool.not_true, Bool.not_false, Bool.false_or, Bool.or_true, Bool.true_or]
    · simp only [h1, decide_false, Bool.not_false, Bool.true_or, Bool.or_true]
theorem bm_64 {bits : Int} (h : bits = 64) : (18446744073709551615 : Int) = (bmS bits : Nat) := by rw [bmS, if_pos h]; decide
theorem bm_lt {bits : Int} (h0 : 0 ≤ bits) (h1 : bits ≤ 64) (h : ¬ bits = 64) : IntKind.u64.wrap (IntKind.u64.wrap (1 * 2 ^ min bits.toNat IntKind.u64.bits) - 1) = (bmS bits : Nat) := by
  rw [shl_one h0 (by omega), bmS, if_neg h]
  have hp : 0 < 2 ^ bits.toNat := Nat.pow_pos (by decide)
  have hq : 2 ^ bits.toNat ≤ 2 ^ 64 := Nat.pow_le_pow_right (by decide) (by omega)
  rw [wrap_u64_id (by omega) (by omega)]
  omega
end Go.Ideal

-- Cg
set_option linter.unusedSimpArgs false
set_option linter.unusedVariables false
namespace Go.Ideal
open Go Go.Proofs
set_option maxHeartbeats 8000000 in
theorem fault_spec (o : OpD) (a : Option Addr) (l c : Nat) (q bits : Int) (cv : Option Addr) (cl cc : Nat) (hb : 0 ≤ bits ∧ bits ≤ 64) (hm : o.mask < 2 ^ 64) (hv : o.value < 2 ^ 64) (h : IHp) (hs : SlIs h a l c (ints o.qs)) (hc63 : c < 2 ^ 63) (hsp : SpotOk a c) :
    EvX Try.prog 81 [.agg [.int .i64 q, .int .i64 bits, .slice cv cl cc].toArray, .agg (o.cells a l c).toArray].toArray h (fun v h' => v = .int .i64 (faultS o q bits) ∧ Ext h h') := by
  have hlen : o.qs.length = l := by have := hs.1; rwa [ints_len] at this
  have hlc : l ≤ c := hs.2.1
  refine EvX_of Try.func81 rfl (by show 2 ≤ 142; decide) ?_
  unfold OpD.cells
  repeat (first | refine V_seq ?_ | refine V_region ?_ | refine WS_nil ?_ | refine S_normal ?_ | refine WS_move ?_ | refine WS_assign ?_ | refine WS_cmp rfl ?_ | refine WS_fieldAddr ?_ | refine WS_load ?_ | refine WS_box_agg rfl ?_)
  refine WS_gen ?_
  intro H hH
  obtain ⟨r, hr⟩ : ∃ r, r = (h.push (.cells [.int .i64 q, .int .i64 bits, .slice cv cl cc] 24 true)).fresh := ⟨_, rfl⟩
  have o2 : ObjIs H h.fresh [.int .i64 q, .int .i64 bits, .slice cv cl cc] 24 true := hH ▸ inferInstance
  have o3 : ObjIs H r [.int .i64 o.kind, .string o.name, .slice a l c, .int .i64 o.bit, .bool o.iff, .int .u64 o.mask, .int .u64 o.value] 72 true := hr ▸ hH ▸ inferInstance
  have eH : Ext h H := hH ▸ (Ext.push _ _).push' _
  rw [← hr]
  clear hH hr
  generalize h.fresh = p at *
  refine WS_cut (fun s' h' => Get s' 5 (.bool (knownS o)) ∧ Get s' 2 (.pointer (some (ad p 0))) ∧ Get s' 3 (.pointer (some (ad r 0))) ∧ h' = H) ?_ ?_
  · repeat' (first | refine WS_nil ?_ | refine WS_off rfl (by first | rfl | assumption) ?_ | refine WS_on rfl (by first | rfl | assumption) ?_ | refine WS_move ?_ | refine WS_assign ?_ | refine WS_pick_t (by first | rfl | assumption) ?_ | refine WS_pick_f (by first | rfl | assumption) ?_ | refine WS_cmp rfl ?_ | refine WS_fieldAddr ?_ | refine WS_load ?_ | (refine WS_guard rfl ?_ ?_ <;> intro hg))
    all_goals exact ⟨get_as (by simp only [knownS, *] <;> rfl), inferInstance, inferInstance, rfl⟩
  rintro s H ⟨g5, g2, g3, rfl⟩
  repeat (first | refine V_seq ?_ | refine V_region ?_ | refine WS_nil ?_ | refine S_normal ?_ | refine WS_assign ?_ | refine WS_cmp rfl ?_ | refine WS_arith rfl ?_ | refine WS_fieldAddr ?_ | refine WS_load ?_ | refine WS_shift (by first | decide | omega) rfl ?_)
  refine V_cut (fun s' h' => Get s' 6 (.int .u64 (bmS bits : Nat)) ∧ Get s' 5 (.bool (knownS o)) ∧ Get s' 2 (.pointer (some (ad p 0))) ∧ Get s' 3 (.pointer (some (ad r 0))) ∧ h' = H) ?_ ?_
  · refine V_cond ?_ ?_ <;> intro hk
    · repeat' (first | refine V_region ?_ | refine WS_nil ?_ | refine C_normal ?_ | refine WS_assign ?_)
      exact ⟨get_as (congrArg (Value.int .u64) (bm_64 (by simpa using hk))), inferInstance, inferInstance, inferInstance, rfl⟩
    · repeat' (first | refine V_skip ?_ | refine C_normal ?_)
      exact ⟨get_as (congrArg (Value.int .u64) (bm_lt hb.1 hb.2 (by simpa using hk))), inferInstance, inferInstance, inferInstance, rfl⟩
  rintro s H ⟨g6, g5, g2, g3, rfl⟩
  repeat (first | refine V_seq ?_ | refine V_region ?_ | refine WS_nil ?_ | refine S_normal ?_ | refine V_block ?_ | refine WS_move ?_ | refine WS_assign ?_ | refine WS_not ?_)
  refine V_cut (fun s' h' => Get s' 32 (.bool (bad5 o bits)) ∧ Get s' 2 (.pointer (some (ad p 0))) ∧ Get s' 3 (.pointer (some (ad r 0))) ∧ h' = H) ?_ ?_
  · repeat' (first | refine V_seq ?_ | refine V_region ?_ | refine WS_nil ?_ | refine S_normal ?_ | refine V_skip ?_ | refine C_normal ?_ | refine WS_off rfl (by first | rfl | assumption) ?_ | refine WS_on rfl (by first | rfl | assumption) ?_ | refine WS_move ?_ | refine WS_assign ?_ | refine WS_pick_t (by first | rfl | assumption) ?_ | refine WS_pick_f (by first | rfl | assumption) ?_ | refine WS_off_undef rfl ?_ | refine WS_cmp rfl ?_ | refine WS_arith rfl ?_ | refine WS_not ?_ | refine WS_fieldAddr ?_ | refine WS_load ?_ | (refine WS_guard rfl ?_ ?_ <;> intro hg) | refine V_cond_t (by first | rfl | assumption) ?_ | refine V_cond_f (by first | rfl | assumption) ?_ | (refine V_cond ?_ ?_ <;> intro hc <;> try (cases hc; done)))
    all_goals exact ⟨get_as (by simp_all [bad5, anS] <;> rfl), inferInstance, inferInstance, rfl⟩
  rintro s H ⟨g32, g2, g3, rfl⟩
  skip
  refine V_cond ?_ ?_ <;> intro h5
  · repeat' (first | refine V_seq ?_ | refine V_region ?_ | refine WS_nil ?_ | refine S_normal ?_ | refine V_ret ?_ | refine S_ret ?_ | refine B_ret ?_ | refine WS_assign ?_)
    refine retK_1 ⟨?_, eH⟩ (.inr rfl)
    rw [faultS, ← bad_same hm hv hb, h5]; rfl
  repeat (first | refine V_seq ?_ | refine V_region ?_ | refine WS_move ?_ | refine WS_cmp rfl ?_ | refine WS_fieldAddr ?_ | refine WS_load ?_)
  refine WS_cut (fun s' h' => Get s' 66 (.bool (!decide (o.kind = 1) && !beqS o.name ⟨#[]⟩)) ∧ Get s' 2 (.pointer (some (ad p 0))) ∧ Get s' 3 (.pointer (some (ad r 0))) ∧ h' = H) ?_ ?_
  · repeat' (first | refine WS_nil ?_ | refine WS_off rfl (by first | rfl | assumption) ?_ | refine WS_on rfl (by first | rfl | assumption) ?_ | refine WS_assign ?_ | refine WS_pick_t (by first | rfl | assumption) ?_ | refine WS_pick_f (by first | rfl | assumption) ?_ | refine WS_strne ?_ | refine WS_fieldAddr ?_ | refine WS_load ?_ | (refine WS_guard rfl ?_ ?_ <;> intro hg))
    all_goals exact ⟨get_as (by simp only [*] <;> rfl), inferInstance, inferInstance, rfl⟩
  rintro s H ⟨g66, g2, g3, rfl⟩
  skip
  refine V_cond ?_ ?_ <;> intro h41
  · repeat' (first | refine V_seq ?_ | refine V_region ?_ | refine WS_nil ?_ | refine S_normal ?_ | refine V_skip ?_ | refine V_ret ?_ | refine S_ret ?_ | refine B_ret ?_ | refine WS_assign ?_ | refine V_cond_t (by first | rfl | assumption) ?_)
    refine retK_1 ⟨?_, eH⟩ (.inr rfl)
    rw [faultS, ← bad_same hm hv hb, h5, bad4, h41]; rfl
  repeat (first | refine V_region ?_ | refine WS_move ?_ | refine WS_cmp rfl ?_ | refine WS_fieldAddr ?_ | refine WS_load ?_)
  refine WS_cut (fun s' h' => Get s' 66 (.bool (!decide (o.kind = 2) && !decide (o.bit = 0))) ∧ Get s' 2 (.pointer (some (ad p 0))) ∧ Get s' 3 (.pointer (some (ad r 0))) ∧ h' = H) ?_ ?_
  · repeat' (first | refine WS_nil ?_ | refine WS_off rfl (by first | rfl | assumption) ?_ | refine WS_on rfl (by first | rfl | assumption) ?_ | refine WS_assign ?_ | refine WS_pick_t (by first | rfl | assumption) ?_ | refine WS_pick_f (by first | rfl | assumption) ?_ | refine WS_cmp rfl ?_ | refine WS_fieldAddr ?_ | refine WS_load ?_ | (refine WS_guard rfl ?_ ?_ <;> intro hg))
    all_goals exact ⟨get_as (by simp only [*] <;> rfl), inferInstance, inferInstance, rfl⟩
  rintro s H ⟨g66, g2, g3, rfl⟩
  skip
  refine V_cond ?_ ?_ <;> intro h42
  · repeat' (first | refine V_seq ?_ | refine V_region ?_ | refine WS_nil ?_ | refine S_normal ?_ | refine V_ret ?_ | refine S_ret ?_ | refine B_ret ?_ | refine WS_assign ?_)
    refine retK_1 ⟨?_, eH⟩ (.inr rfl)
    rw [faultS, ← bad_same hm hv hb, h5, bad4, h41, h42]; rfl
  have hsb : ¬ shapeBad o bits = true := by rw [← bad_same hm hv hb, h5, bad4, h41, h42]; decide
  repeat (first | refine V_seq ?_ | refine V_region ?_ | refine WS_nil ?_ | refine S_normal ?_ | refine B_normal ?_ | refine V_skip ?_ | refine WS_assign ?_ | refine WS_cmp rfl ?_ | refine WS_fieldAddr ?_ | refine WS_load ?_)
  refine V_cut (fun s' h' => ∃ H2, Get s' 7 (.int .i64 (nS o)) ∧ (o.kind = 1 → arityS o.name ≠ 0) ∧ Get s' 2 (.pointer (some (ad p 0))) ∧ Get s' 3 (.pointer (some (ad r 0))) ∧ h' = H2 ∧ Ext H H2) ?_ ?_
  · refine V_cond ?_ ?_ <;> intro hk
    · repeat' (first | refine V_seq ?_ | refine V_region ?_ | refine WS_fieldAddr ?_ | refine WS_load ?_)
      refine WS_call (gateArity_spec o.name _) ?_
      rintro _ H2 ⟨rfl, e2⟩
      have hk1 : o.kind = 1 := by simpa using hk
      repeat' (first | refine V_seq ?_ | refine V_region ?_ | refine WS_nil ?_ | refine S_normal ?_ | refine V_skip ?_ | refine V_ret ?_ | refine S_ret ?_ | refine C_normal ?_ | refine C_ret ?_ | refine WS_move ?_ | refine WS_assign ?_ | refine WS_cmp rfl ?_ | (refine V_cond ?_ ?_ <;> intro hc <;> try (cases hc; done)))
      · refine retK_1 ⟨?_, eH.trans e2⟩ (.inr rfl)
        rw [faultS, if_neg hsb, if_pos ⟨hk1, by simpa using hc⟩]
      · exact ⟨H2, get_as (by simp [nS, hk1]), fun _ => by simpa using hc, inferInstance, inferInstance, rfl, e2⟩
    · repeat' (first | refine V_skip ?_ | refine C_normal ?_)
      have hk1 : ¬ o.kind = 1 := by simpa using hk
      exact ⟨H, get_as (by simp [nS, hk1]), fun h => absurd h hk1, inferInstance, inferInstance, rfl, Ext.refl _⟩
  rintro s H2 ⟨_, g7, hk1, g2, g3, rfl, e2⟩
  have p2 := ObjIs.ext (e := e2) (i := o2)
  have p3 := ObjIs.ext (e := e2) (i := o3)
  have eH2 := eH.trans e2
  clear e2 eH o2 o3
  have hk2 : ¬ (o.kind = 1 ∧ arityS o.name = 0) := fun hh => hk1 hh.1 hh.2
  repeat (first | refine V_seq ?_ | refine V_region ?_ | refine WS_nil ?_ | refine S_normal ?_ | refine WS_move ?_ | refine WS_cmp rfl ?_ | refine WS_len_slice ?_ | refine WS_fieldAddr ?_ | refine WS_load ?_)
  refine V_cond ?_ ?_ <;> intro hn
  · have hn1 : (o.qs.length : Int) ≠ nS o := by rw [hlen]; simpa using hn
    repeat' (first | refine V_seq ?_ | refine V_region ?_ | refine WS_nil ?_ | refine S_normal ?_ | refine V_ret ?_ | refine S_ret ?_ | refine WS_assign ?_)
    refine retK_1 ⟨?_, eH2⟩ (.inr rfl)
    rw [faultS, if_neg hsb, if_neg hk2, if_pos hn1]
  have hn2 : ¬ (o.qs.length : Int) ≠ nS o := by rw [hlen]; simpa using hn
  repeat (first | refine V_seq ?_ | refine V_region ?_ | refine WS_nil ?_ | refine S_normal ?_ | refine V_block ?_ | refine V_skip ?_ | refine WS_move ?_ | refine WS_len_slice ?_ | refine WS_fieldAddr ?_ | refine WS_load ?_)
  refine V_loop (fun d s h' => ∃ i : Int, d = (l - i).toNat ∧ 0 ≤ i ∧ i ≤ l ∧ Get s 99 (.int .i64 i) ∧ Get s 98 (.int .i64 l) ∧ Get s 97 (.slice a l c) ∧ Get s 2 (.pointer (some (ad p 0))) ∧ Get s 3 (.pointer (some (ad r 0))) ∧ h' = H2 ∧ (o.qs.take i.toNat).any (outS q) = false) l
    ⟨0, by omega, by omega, by omega, inferInstance, inferInstance, inferInstance, inferInstance, inferInstance, rfl, by simp⟩ ?_
  rintro d s H2 ⟨i, rfl, hi0, hi1, g99, g98, g97, g2, g3, rfl, hany⟩
  repeat (first | refine V_seq ?_ | refine V_region ?_ | refine WS_nil ?_ | refine S_normal ?_ | refine WS_cmp rfl ?_)
  refine V_cond ?_ ?_ <;> intro hi
  · have hil : i < l := by simpa using hi
    obtain ⟨b, v, rfl, hv1, c1⟩ := (hs.ext eH2).at hi0 hil
    obtain ⟨x, rfl, hx⟩ := ints_get hv1
    have hbnd : 0 ≤ i ∧ i < (l : Int) := ⟨hi0, hil⟩
    repeat (first | refine V_seq ?_ | refine V_region ?_ | refine WS_nil ?_ | refine S_normal ?_ | refine V_block ?_ | refine V_skip ?_ | refine WS_move ?_ | refine WS_assign ?_ | refine WS_cmp rfl ?_ | refine WS_load ?_ | refine WS_indexAddr (by first | decide | omega) ?_)
    refine WS_cut (fun s' h' => Get s' 110 (.bool (outS q x)) ∧ Get s' 99 (.int .i64 i) ∧ Get s' 98 (.int .i64 l) ∧ Get s' 97 (.slice (some b) l c) ∧ Get s' 2 (.pointer (some (ad p 0))) ∧ Get s' 3 (.pointer (some (ad r 0))) ∧ h' = H2) ?_ ?_
    · repeat' (first | refine WS_nil ?_ | refine WS_off rfl (by first | rfl | assumption) ?_ | refine WS_on rfl (by first | rfl | assumption) ?_ | refine WS_move ?_ | refine WS_pick_t (by first | rfl | assumption) ?_ | refine WS_pick_f (by first | rfl | assumption) ?_ | refine WS_cmp rfl ?_ | refine WS_fieldAddr ?_ | refine WS_load ?_ | (refine WS_guard rfl ?_ ?_ <;> intro hg))
      all_goals exact ⟨get_as (by rw [outS, hg]; rfl), inferInstance, inferInstance, inferInstance, inferInstance, inferInstance, rfl⟩
    rintro s H2 ⟨g110, g99, g98, g97, g2, g3, rfl⟩
    repeat' (first | refine V_seq ?_ | refine V_region ?_ | refine WS_nil ?_ | refine S_normal ?_ | refine B_normal ?_ | refine V_skip ?_ | refine V_ret ?_ | refine S_ret ?_ | refine B_ret ?_ | refine WS_move ?_ | refine WS_assign ?_ | refine WS_addi (by omega) ?_ | (refine V_cond ?_ ?_ <;> intro hc <;> try (cases hc; done)))
    · refine retK_1 ⟨?_, eH2⟩ (.inr rfl)
      rw [faultS, if_neg hsb, if_neg hk2, if_neg hn2, if_pos (any_at hx hc)]
    · refine ⟨_, ?_, i + 1, rfl, by omega, by omega, inferInstance, inferInstance, inferInstance, inferInstance, inferInstance, rfl, ?_⟩
      · omega
      · rw [show (i + 1).toNat = i.toNat + 1 by omega]; exact any_take hany hx hc
  have hil : i = l := by simp at hi; omega
  rw [hil, Int.toNat_natCast, List.take_of_length_le (by omega)] at hany
  repeat (first | refine V_seq ?_ | refine V_region ?_ | refine S_normal ?_ | refine V_exit ?_ | refine S_exit ?_ | refine B_exit ?_ | refine WS_move ?_ | refine WS_cmp rfl ?_ | refine WS_fieldAddr ?_ | refine WS_load ?_)
  refine WS_cut (fun s' h' => Get s' 126 (.bool (bitBad o bits)) ∧ Get s' 3 (.pointer (some (ad r 0))) ∧ h' = H2) ?_ ?_
  · repeat' (first | refine WS_nil ?_ | refine WS_off rfl (by first | rfl | assumption) ?_ | refine WS_on rfl (by first | rfl | assumption) ?_ | refine WS_move ?_ | refine WS_pick_t (by first | rfl | assumption) ?_ | refine WS_pick_f (by first | rfl | assumption) ?_ | refine WS_off_undef rfl ?_ | refine WS_cmp rfl ?_ | refine WS_fieldAddr ?_ | refine WS_load ?_ | (refine WS_guard rfl ?_ ?_ <;> intro hg))
    all_goals exact ⟨get_as (by simp only [bitBad, *] <;> rfl), inferInstance, rfl⟩
  rintro s H2 ⟨g126, g3, rfl⟩
  skip
  refine V_cond ?_ ?_ <;> intro hbb
  · repeat' (first | refine V_seq ?_ | refine V_region ?_ | refine WS_nil ?_ | refine S_normal ?_ | refine V_ret ?_ | refine S_ret ?_ | refine WS_assign ?_)
    refine retK_1 ⟨?_, eH2⟩ (.inr rfl)
    rw [faultS, if_neg hsb, if_neg hk2, if_neg hn2, if_neg (by rw [hany]; decide), if_pos hbb]
  repeat (first | refine V_seq ?_ | refine V_region ?_ | refine WS_nil ?_ | refine S_normal ?_ | refine V_block ?_ | refine V_skip ?_ | refine WS_move ?_ | refine WS_len_slice ?_ | refine WS_fieldAddr ?_ | refine WS_load ?_)
  refine V_loop (fun d s h' => ∃ i : Int, d = (l - i).toNat ∧ 0 ≤ i ∧ i ≤ l ∧ Get s 130 (.int .i64 i) ∧ Get s 129 (.int .i64 l) ∧ Get s 128 (.slice a l c) ∧ Get s 3 (.pointer (some (ad r 0))) ∧ h' = H2 ∧ dupK o.qs i.toNat = false) l
    ⟨0, by omega, by omega, by omega, inferInstance, inferInstance, inferInstance, inferInstance, rfl, rfl⟩ ?_
  rintro d s H2 ⟨i, rfl, hi0, hi1, g130, g129, g128, g3, rfl, hdup⟩
  repeat (first | refine V_seq ?_ | refine V_region ?_ | refine WS_nil ?_ | refine S_normal ?_ | refine WS_cmp rfl ?_)
  refine V_cond ?_ ?_ <;> intro hi
  · have hil : i < l := by simpa using hi
    obtain ⟨b, v, rfl, hv1, c1⟩ := (hs.ext eH2).at hi0 hil
    obtain ⟨x, rfl, hx⟩ := ints_get hv1
    have hbnd : 0 ≤ i ∧ i < (l : Int) := ⟨hi0, hil⟩
    have hspot : b.spot = none := by
      rcases hsp b rfl with h1 | h1
      · exact h1
      · omega
    repeat (first | refine V_seq ?_ | refine V_region ?_ | refine WS_nil ?_ | refine S_normal ?_ | refine V_block ?_ | refine V_skip ?_ | refine WS_move ?_ | refine WS_assign ?_ | refine WS_fieldAddr ?_ | refine WS_load ?_ | refine WS_indexAddr (by first | decide | omega) ?_)
    refine WS_slice_hi hspot (by omega) ?_
    repeat (refine WS_move ?_)
    have hsl : SlIs H2 (some (ad b.block b.off)) i.toNat c (ints (o.qs.take i.toNat)) := by
      obtain ⟨s1, s2, s3⟩ := hs.ext eH2
      refine ⟨by simp [ints]; omega, by omega, ?_⟩
      simp only at s3 ⊢
      have := row_take s3 (show i.toNat ≤ l by omega)
      rw [this, ints, ints, List.map_take]
    refine WS_call (Contains_spec _ _ _ _ x _ hsl (by omega)) ?_
    rintro _ _ ⟨rfl, rfl⟩
    repeat' (first | refine V_seq ?_ | refine V_region ?_ | refine WS_nil ?_ | refine S_normal ?_ | refine B_normal ?_ | refine V_skip ?_ | refine V_ret ?_ | refine S_ret ?_ | refine B_ret ?_ | refine WS_move ?_ | refine WS_assign ?_ | refine WS_addi (by omega) ?_ | (refine V_cond ?_ ?_ <;> intro hc <;> try (cases hc; done)))
    · have hd : dupK o.qs (i.toNat + 1) = true := by
        rw [dupK, getD_at hx, Bool.or_eq_true]; exact .inr hc
      refine retK_1 ⟨?_, eH2⟩ (.inr rfl)
      rw [faultS, if_neg hsb, if_neg hk2, if_neg hn2, if_neg (by rw [hany]; decide), if_neg (by rw [hbb]; decide), if_pos (dupK_more hd _ (by omega))]
    · refine ⟨_, ?_, i + 1, rfl, by omega, by omega, inferInstance, inferInstance, inferInstance, inferInstance, rfl, ?_⟩
      · omega
      · rw [show (i + 1).toNat = i.toNat + 1 by omega, dupK, hdup, getD_at hx, hc]; rfl
  have hil : i = l := by simp at hi; omega
  repeat' (first | refine V_seq ?_ | refine V_region ?_ | refine WS_nil ?_ | refine S_normal ?_ | refine V_exit ?_ | refine V_ret ?_ | refine S_exit ?_ | refine B_exit ?_ | refine WS_assign ?_)
  refine retK_1 ⟨?_, eH2⟩ (.inr rfl)
  rw [hil, Int.toNat_natCast, ← hlen] at hdup
  rw [faultS, if_neg hsb, if_neg hk2, if_neg hn2, if_neg (by rw [hany]; decide), if_neg (by rw [hbb]; decide), if_neg (by rw [hdup]; decide)]
instance : CallIs Try.prog 81 := .of Try.func81 rfl rfl
end Go.Ideal

-- Ch
set_option linter.unusedSimpArgs false
set_option linter.unusedVariables false
namespace Go.Ideal
open Go Go.Proofs
/-! ### Check -/
def rangeBad (c : CircD) : Bool := decide (c.qubits < 0) || decide (64 < c.qubits) || decide (c.bits < 0) || decide (64 < c.bits)
theorem rangeBad_no {c : CircD} (h : rangeBad c = false) : 0 ≤ c.qubits ∧ c.qubits ≤ 64 ∧ 0 ≤ c.bits ∧ c.bits ≤ 64 := by
  simp [rangeBad] at h; omega
def chkK (q b : Int) : List OpD → Int → Int → Int × Int
  | [], _, _ => (0, 0)
  | o :: os, i, n => if faultS o q b ≠ 0 then (i, faultS o q b) else if 36 < n + halvesO o then (i, 116) else chkK q b os (i + 1) (n + halvesO o)
def checkC (c : CircD) : Int × Int :=
  if rangeBad c = true then (0, 2) else if 4096 < c.ops.length then (0, 115) else chkK c.qubits c.bits c.ops 0 0
theorem drop_at {α : Type} {l : List α} {i : Nat} {x : α} (h : l[i]? = some x) : l.drop i = x :: l.drop (i + 1) := by
  have hi := (List.getElem?_eq_some_iff.1 h).1
  rw [List.drop_eq_getElem_cons hi]
  rw [List.getElem?_eq_getElem hi] at h
  rw [Option.some.inj h]
set_option maxHeartbeats 4000000 in
theorem circCheck_spec {c : CircD} {v : Value} {h : IHp} (hv : CircV h v c) : EvX Try.prog 52 [v].toArray h (fun v h' => v = .tuple [.int .i64 (checkC c).1, .int .i64 (checkC c).2].toArray ∧ Ext h h') := by
  obtain ⟨a, l, k, rfl, hops⟩ := hv
  have hlen : c.ops.length = l := hops.1
  have hlk : l ≤ k := hops.2.1
  refine EvX_of Try.func52 rfl (by show 1 ≤ 53; decide) ?_
  repeat (first | refine V_seq ?_ | refine V_region ?_ | refine WS_nil ?_ | refine S_normal ?_ | refine WS_move ?_ | refine WS_assign ?_ | refine WS_cmp rfl ?_ | refine WS_fieldAddr ?_ | refine WS_load ?_ | refine WS_box_agg rfl ?_)
  refine WS_gen ?_
  intro H hH
  have o1 : ObjIs H h.fresh [.int .i64 c.qubits, .int .i64 c.bits, .slice a l k] 24 true := hH ▸ inferInstance
  have eH : Ext h H := hH ▸ Ext.push _ _
  clear hH
  generalize h.fresh = p at *
  refine WS_cut (fun s' h' => Get s' 25 (.bool (rangeBad c)) ∧ Get s' 1 (.pointer (some (ad p 0))) ∧ h' = H) ?_ ?_
  · repeat' (first | refine WS_nil ?_ | refine WS_off rfl (by first | rfl | assumption) ?_ | refine WS_on rfl (by first | rfl | assumption) ?_ | refine WS_move ?_ | refine WS_pick_t (by first | rfl | assumption) ?_ | refine WS_pick_f (by first | rfl | assumption) ?_ | refine WS_cmp rfl ?_ | refine WS_fieldAddr ?_ | refine WS_load ?_ | (refine WS_guard rfl ?_ ?_ <;> intro hg))
    all_goals exact ⟨get_as (by simp only [rangeBad, *] <;> rfl), inferInstance, rfl⟩
  rintro s H ⟨g25, g1, rfl⟩
  skip
  refine V_cond ?_ ?_ <;> intro hr
  · repeat' (first | refine V_seq ?_ | refine V_region ?_ | refine WS_nil ?_ | refine S_normal ?_ | refine V_ret ?_ | refine S_ret ?_ | refine WS_assign ?_)
    refine retK_2 ⟨?_, eH⟩ (.inr rfl)
    rw [checkC, if_pos hr]
  have hrn : ¬ rangeBad c = true := by rw [hr]; decide
  obtain ⟨hq0, hq1, hb0, hb1⟩ := rangeBad_no hr
  repeat (first | refine V_seq ?_ | refine V_region ?_ | refine WS_nil ?_ | refine S_normal ?_ | refine V_skip ?_ | refine WS_cmp rfl ?_ | refine WS_len_slice ?_ | refine WS_fieldAddr ?_ | refine WS_load ?_)
  refine V_cond ?_ ?_ <;> intro hm
  · repeat' (first | refine V_seq ?_ | refine V_region ?_ | refine WS_nil ?_ | refine S_normal ?_ | refine V_ret ?_ | refine S_ret ?_ | refine WS_assign ?_)
    refine retK_2 ⟨?_, eH⟩ (.inr rfl)
    rw [checkC, if_neg hrn, if_pos (by simp at hm; omega)]
  have hmn : ¬ 4096 < c.ops.length := by simp at hm; omega
  repeat (first | refine V_seq ?_ | refine V_region ?_ | refine WS_nil ?_ | refine S_normal ?_ | refine V_block ?_ | refine V_skip ?_ | refine WS_move ?_ | refine WS_assign ?_ | refine WS_len_slice ?_ | refine WS_fieldAddr ?_ | refine WS_load ?_)
  refine V_loop (fun d s h' => ∃ i n : Int, d = (l - i).toNat ∧ 0 ≤ i ∧ i ≤ l ∧ 0 ≤ n ∧ n ≤ 36 ∧ Get s 33 (.int .i64 i) ∧ Get s 32 (.int .i64 l) ∧ Get s 31 (.slice a l k) ∧ Get s 4 (.int .i64 n) ∧ Get s 1 (.pointer (some (ad p 0))) ∧ Ext H h' ∧ chkK c.qubits c.bits c.ops 0 0 = chkK c.qubits c.bits (c.ops.drop i.toNat) i n) l
    ⟨0, 0, by omega, by omega, by omega, by omega, by omega, inferInstance, inferInstance, inferInstance, inferInstance, inferInstance, Ext.refl _, rfl⟩ ?_
  rintro d s h' ⟨i, n, rfl, hi0, hi1, hn0, hn1, g33, g32, g31, g4, g1, e', hK⟩
  repeat (first | refine V_seq ?_ | refine V_region ?_ | refine WS_nil ?_ | refine S_normal ?_ | refine WS_cmp rfl ?_)
  refine V_cond ?_ ?_ <;> intro hi
  · have hil : i < l := by simpa using hi
    obtain ⟨b, o, cells, rfl, ho, hrow, hC⟩ := ((hops.ext eH).ext e').at hi0 hil
    obtain ⟨qa, ql, qc, rfl, hs, hmk, hvl, hc63, hsp⟩ := hC
    unfold OpD.cells at hrow
    have hbnd : 0 ≤ i ∧ i < (l : Int) := ⟨hi0, hil⟩
    rw [drop_at ho, chkK] at hK
    repeat (first | refine V_seq ?_ | refine V_region ?_ | refine WS_nil ?_ | refine S_normal ?_ | refine V_block ?_ | refine V_skip ?_ | refine WS_move ?_ | refine WS_assign ?_ | refine WS_load_agg ?_ | refine WS_indexAddr (by first | decide | omega) ?_ | refine WS_alloc ?_ | refine WS_store rfl ?_)
    refine WS_gen ?_
    intro H1 hH1
    have o6 : ObjIs H1 h'.fresh [.int .i64 o.kind, .string o.name, .slice qa ql qc, .int .i64 o.bit, .bool o.iff, .int .u64 o.mask, .int .u64 o.value] 72 true := hH1 ▸ inferInstance
    have e1 : Ext h' H1 := hH1 ▸ (Ext.push _ _).putObj (Nat.le_refl _)
    have x1 : Ext H H1 := e'.trans e1
    clear hH1
    generalize h'.fresh = r at *
    repeat (refine WS_load_agg ?_)
    refine WS_call (fault_spec o qa ql qc c.qubits c.bits (some b) l k ⟨hb0, hb1⟩ hmk hvl _ (hs.ext e1) hc63 hsp) ?_
    rintro _ H2 ⟨rfl, e2⟩
    have x2 := x1.trans e2
    have o6' := ObjIs.ext (e := e2) (i := o6)
    clear e1 e2 x1 o6 e'
    repeat (first | refine V_seq ?_ | refine V_region ?_ | refine WS_nil ?_ | refine S_normal ?_ | refine WS_move ?_ | refine WS_assign ?_ | refine WS_cmp rfl ?_)
    refine V_cond ?_ ?_ <;> intro hf
    · have hf1 : faultS o c.qubits c.bits ≠ 0 := by simpa using hf
      repeat' (first | refine V_seq ?_ | refine V_region ?_ | refine WS_nil ?_ | refine S_normal ?_ | refine V_ret ?_ | refine S_ret ?_ | refine B_ret ?_ | refine WS_move ?_ | refine WS_assign ?_)
      refine retK_2 ⟨?_, eH.trans x2⟩ (.inr rfl)
      rw [checkC, if_neg hrn, if_neg hmn, hK, if_pos hf1]
    · have hf1 : ¬ faultS o c.qubits c.bits ≠ 0 := by simpa using hf
      repeat (first | refine V_seq ?_ | refine V_region ?_ | refine S_normal ?_ | refine V_skip ?_ | refine WS_move ?_ | refine WS_load_agg ?_)
      refine WS_call (halves_spec o qa ql qc _) ?_
      rintro _ H3 ⟨rfl, e3⟩
      have x3 := x2.trans e3
      have h01 := halvesO_01 o
      clear e3 x2 o6'
      repeat' (first | refine V_seq ?_ | refine V_region ?_ | refine WS_nil ?_ | refine S_normal ?_ | refine B_normal ?_ | refine V_skip ?_ | refine V_ret ?_ | refine S_ret ?_ | refine B_ret ?_ | refine WS_move ?_ | refine WS_assign ?_ | refine WS_cmp rfl ?_ | refine WS_addi (by omega) ?_ | (refine V_cond ?_ ?_ <;> intro hc <;> try (cases hc; done)))
      · refine retK_2 ⟨?_, eH.trans x3⟩ (.inr rfl)
        rw [checkC, if_neg hrn, if_neg hmn, hK, if_neg hf1, if_pos (by simpa using hc)]
      · have hc1 : ¬ 36 < n + halvesO o := by simpa using hc
        refine ⟨_, ?_, i + 1, n + halvesO o, rfl, by omega, by omega, by omega, by omega, inferInstance, inferInstance, inferInstance, inferInstance, inferInstance, x3, ?_⟩
        · omega
        · rw [hK, if_neg hf1, if_neg hc1, show (i + 1).toNat = i.toNat + 1 by omega]
  · have hil : i = l := by simp at hi; omega
    repeat' (first | refine V_seq ?_ | refine V_region ?_ | refine WS_nil ?_ | refine S_normal ?_ | refine V_exit ?_ | refine V_ret ?_ | refine S_exit ?_ | refine B_exit ?_ | refine WS_assign ?_)
    refine retK_2 ⟨?_, eH.trans e'⟩ (.inr rfl)
    rw [checkC, if_neg hrn, if_neg hmn, hK, List.drop_of_length_le (by omega)]; rfl
instance : CallIs Try.prog 52 := .of Try.func52 rfl rfl
instance : CallIs Try.prog 70 := .of Try.func70 rfl rfl
end Go.Ideal

-- Cia
set_option linter.unusedSimpArgs false
set_option linter.unusedVariables false
namespace Go.Ideal
open Go Go.Proofs Go.RowKit
theorem chk_ok {q b : Int} : ∀ (ops : List OpD) (i n : Int), (chkK q b ops i n).2 = 0 → ∀ o ∈ ops, faultS o q b = 0 := by
  intro ops
  induction ops with
  | nil => intro i n _ o ho; cases ho
  | cons o ops ih =>
    intro i n h o' ho'
    rw [chkK] at h
    split at h
    · rename_i hf; exact absurd h hf
    · rename_i hf
      split at h
      · cases h
      · rcases List.mem_cons.1 ho' with rfl | h2
        · exact Decidable.not_not.1 hf
        · exact ih _ _ h o' h2
theorem checkC_ok {c : CircD} (h : (checkC c).2 = 0) : rangeBad c = false ∧ c.ops.length ≤ 4096 ∧ ∀ o ∈ c.ops, faultS o c.qubits c.bits = 0 := by
  unfold checkC at h
  split at h
  · cases h
  · rename_i hr
    split at h
    · cases h
    · rename_i hm
      exact ⟨by simpa using hr, by omega, chk_ok _ _ _ h⟩
theorem fault_ok {o : OpD} {q b : Int} (h : faultS o q b = 0) : shapeBad o b = false ∧ ¬ (o.kind = 1 ∧ arityS o.name = 0) ∧ (o.qs.length : Int) = nS o ∧ o.qs.any (outS q) = false ∧ bitBad o b = false ∧ dupK o.qs o.qs.length = false := by
  unfold faultS at h
  split at h
  · cases h
  · rename_i h1
    split at h
    · cases h
    · rename_i h2
      split at h
      · cases h
      · rename_i h3
        split at h
        · cases h
        · rename_i h4
          split at h
          · cases h
          · rename_i h5
            split at h
            · cases h
            · rename_i h6
              exact ⟨by simpa using h1, h2, Decidable.not_not.1 h3, by simpa using h4, by simpa using h5, by simpa using h6⟩
end Go.Ideal

-- Ta
set_option linter.unusedSimpArgs false
set_option linter.unusedVariables false
namespace Go.Ideal
open Go Go.Proofs Go.RowKit
/-! ### Circuits as trees; functions of flat values -/
@[reducible] def intT (z : Int) : Tr := .v (.int .i64 z)
@[reducible] def boolT (b : Bool) : Tr := .v (.bool b)
@[reducible] def strT (b : ByteArray) : Tr := .v (.string b)
@[reducible] def u64T (n : Nat) : Tr := .v (.int .u64 n)
def intRows (xs : List Int) : List (List Tr) := xs.map fun x => [intT x]
@[reducible] def opCs (o : OpD) : List Tr := [intT o.kind, strT o.name, .sl 1 (intRows o.qs), intT o.bit, boolT o.iff, u64T o.mask, u64T o.value]
def opRows (os : List OpD) : List (List Tr) := os.map opCs
@[reducible] def circCs (c : CircD) : List Tr := [intT c.qubits, intT c.bits, .sl 7 (opRows c.ops)]
@[reducible] def circT (c : CircD) : Tr := .agg (circCs c)
def OpW (o : OpD) : Prop := o.mask < 2 ^ 64 ∧ o.value < 2 ^ 64
def CircW (c : CircD) : Prop := ∀ o ∈ c.ops, OpW o
theorem NthG.map {α β : Type} {l : List α} {i : Nat} {a : α} (f : α → β) (h : l[i]? = some a) : NthG (l.map f) i (f a) := ⟨by rw [List.getElem?_map, h]; rfl⟩
instance {xs : List Int} : LenO (intRows xs) xs.length := ⟨by simp [intRows]⟩
instance {os : List OpD} : LenO (opRows os) os.length := ⟨by simp [opRows]⟩
instance {xs : List Int} : LenT (intRows xs) xs.length := ⟨by simp [intRows]⟩
instance {os : List OpD} : LenT (opRows os) os.length := ⟨by simp [opRows]⟩
theorem intRows_at {F : Mem} {b : Nat} : ∀ {xs : List Int} {off : Nat}, RepR F b 1 (intRows xs) off → rowM F b off xs.length = some (ints xs) := by
  intro xs
  induction xs with
  | nil => intro off _; rfl
  | cons x xs ih =>
    intro off h
    simp only [intRows, List.map_cons, RepR] at h
    obtain ⟨⟨vs, h1, h2⟩, h3⟩ := h
    simp only [RepL, Rep] at h2
    obtain ⟨v, ws, rfl, rfl, rfl⟩ := h2
    simp only [rowM, Option.bind_eq_some_iff] at h1
    obtain ⟨u, hu, us, hus, h4⟩ := h1
    obtain rfl := Option.some.inj hus
    simp only [Option.some.injEq, List.cons.injEq, and_true] at h4
    subst h4
    simp only [List.length_cons, rowM, hu, Option.bind_some, ih h3, ints, List.map_cons]
theorem sl_ints {F : Mem} {h : IHp} (hs : Sub F h.cell?) {xs : List Int} {v : Value} (hv : Rep F (.sl 1 (intRows xs)) v) : ∃ a l c, v = .slice a l c ∧ SlIs h a l c (ints xs) ∧ c < 2 ^ 63 ∧ SpotOk a c := by
  simp only [Rep] at hv
  obtain ⟨a, n, c, rfl, h2, h3, h4, h5, h6⟩ := hv
  have hl : xs.length = n := by rw [← h2]; simp [intRows]
  refine ⟨a, n, c, rfl, ⟨by rw [ints_len]; exact hl, h3, ?_⟩, h4, h5⟩
  cases a with
  | none => exact h6
  | some a =>
    simp only
    rw [row_rowM, ← hl]
    exact rowM_sub hs (intRows_at h6)
theorem op_inv {F : Mem} {h : IHp} (hs : Sub F h.cell?) {o : OpD} {vs : List Value} (hv : RepL F (opCs o) vs) : ∃ a l c, vs = o.cells a l c ∧ SlIs h a l c (ints o.qs) ∧ c < 2 ^ 63 ∧ SpotOk a c := by
  unfold opCs at hv
  simp only [RepL, Rep.val] at hv
  obtain ⟨_, _, rfl, rfl, _, _, rfl, rfl, v, _, rfl, h1, _, _, rfl, rfl, _, _, rfl, rfl, _, _, rfl, rfl, _, _, rfl, rfl, rfl⟩ := hv
  obtain ⟨a, l, c, rfl, h2, h3, h4⟩ := sl_ints hs h1
  exact ⟨a, l, c, rfl, h2, h3, h4⟩
theorem circ_inv {F : Mem} {h : IHp} (hs : Sub F h.cell?) {c : CircD} (hw : CircW c) {v : Value} (hv : Rep F (circT c) v) : CircV h v c := by
  unfold circT circCs at hv
  simp only [Rep, RepL] at hv
  obtain ⟨_, rfl, _, _, rfl, rfl, _, _, rfl, rfl, _, _, rfl, ⟨a, n, k, rfl, h2, h3, h4, h5, h6⟩, rfl⟩ := hv
  have hl : c.ops.length = n := by rw [← h2]; simp [opRows]
  refine ⟨a, n, k, rfl, hl, h3, h4, ?_⟩
  cases a with
  | none => exact h6
  | some a =>
    intro i o ho
    obtain ⟨vs, h7, h8⟩ := RepR.get h6 (i := i) (row := opCs o) (by simp only [opRows, List.getElem?_map, ho]; rfl)
    obtain ⟨qa, ql, qc, rfl, h9, h10, h11⟩ := op_inv hs h8
    refine ⟨_, by rw [row_rowM]; exact rowM_sub hs h7, qa, ql, qc, rfl, h9, (hw o (List.mem_of_getElem? ho)).1, (hw o (List.mem_of_getElem? ho)).2, h10, h11⟩
theorem vals_inv {F : Mem} : ∀ {ws vs : List Value}, RepL F (ws.map Tr.v) vs → vs = ws := by
  intro ws
  induction ws with
  | nil => intro vs h; simpa only [List.map_nil, RepL] using h
  | cons w ws ih =>
    intro vs h
    simp only [List.map_cons, RepL, Rep.val] at h
    obtain ⟨_, us, rfl, rfl, h3⟩ := h
    rw [ih h3]
/-- a function of plain values -/
theorem Fn_vals {P : Program} {f : FuncId} {ws : List Value} {w : Value} (x : ∀ h : IHp, EvX P f ws.toArray h (fun v h' => v = w ∧ Ext h h')) {t : Tr} (ht : ∀ F, Rep F t w) : Fn P f (ws.map Tr.v) (fun r => r = t) :=
  Fn_flat (fun F0 h vs h1 h2 => by rw [vals_inv h2]; exact x h) ht
theorem arityT (b : ByteArray) : Fn Try.prog 37 [strT b] (fun r => r = intT (arityS b)) := Fn_vals (ws := [_]) (fun h => gateArity_spec b h) (fun F => rep_v _)
theorem halvesGT (b : ByteArray) : Fn Try.prog 39 [strT b] (fun r => r = intT (halvesS b)) := Fn_vals (ws := [_]) (fun h => gateHalves_spec b h) (fun F => rep_v _)
theorem rep_pair {F : Mem} (a b : Value) : Rep F (.tup [.v a, .v b]) (.tuple [a, b].toArray) := by
  simp only [Rep]; exact ⟨_, rfl, RepL.cons (rep_v _) (RepL.cons (rep_v _) RepL.nil)⟩
theorem backT (b : ByteArray) : Fn Try.prog 45 [strT b] (fun r => r = .tup [strT (backS b).1, intT (backS b).2]) := Fn_vals (ws := [_]) (fun h => gateInverse_spec b h) (fun F => rep_pair _ _)
theorem checkT {c : CircD} (hw : CircW c) : Fn Try.prog 52 [circT c] (fun r => r = .tup [intT (checkC c).1, intT (checkC c).2]) :=
  Fn_flat (fun F0 h vs h1 h2 => by
    simp only [RepL] at h2
    obtain ⟨v, _, rfl, h3, rfl⟩ := h2
    exact circCheck_spec (circ_inv h1 hw h3)) (fun F => rep_pair _ _)
/-! ### Halves -/
def sumH : List OpD → Int
  | [] => 0
  | o :: os => halvesO o + sumH os
theorem sumH_nn : ∀ os : List OpD, 0 ≤ sumH os ∧ sumH os ≤ os.length := by
  intro os
  induction os with
  | nil => simp [sumH]
  | cons o os ih => have := halvesO_01 o; simp only [sumH, List.length_cons]; omega
instance : CallIs Try.prog 35 := .of Try.func35 rfl rfl
end Go.Ideal

-- Mb
set_option linter.unusedSimpArgs false
set_option linter.unusedVariables false
namespace Go.Ideal
open Go Go.Proofs Go.RowKit
/-! ### Bits at places -/
theorem ibits_andNotM {x y : Nat} (u : x < 2 ^ 64) (v : y < 2 ^ 64) : ibits .andNot .u64 x y = ((x ^^^ (x &&& y) : Nat) : Int) := by
  have h1 : (BitVec.ofInt 64 (x : Int) &&& ~~~BitVec.ofInt 64 (y : Int)).toNat = x ^^^ (x &&& y) := by
    rw [BitVec.toNat_and, BitVec.toNat_not, ofInt_u64 u, ofInt_u64 v]
    apply Nat.eq_of_testBit_eq
    intro i
    rw [Nat.testBit_and, Nat.testBit_xor, Nat.testBit_and, show 2 ^ 64 - 1 - y = 2 ^ 64 - (y + 1) by omega, Nat.testBit_two_pow_sub_succ v]
    by_cases hi : i < 64
    · simp [hi]; cases x.testBit i <;> cases y.testBit i <;> rfl
    · rw [Nat.testBit_lt_two_pow (Nat.lt_of_lt_of_le u (Nat.pow_le_pow_right (by decide) (by omega)))]; simp
  show IntKind.u64.wrap ((BitVec.ofInt 64 (x : Int) &&& ~~~BitVec.ofInt 64 (y : Int)).toNat : Int) = _
  rw [h1]
  exact wrap_u64 (Nat.xor_lt_two_pow u (Nat.lt_of_le_of_lt Nat.and_le_left u))
theorem ari_andNot {x y : Nat} (u : x < 2 ^ 64) (v : y < 2 ^ 64) : AriT .andNot .u64 (x : Int) (y : Int) ((x ^^^ (x &&& y) : Nat) : Int) := ⟨by simp only [iarith, ibits_andNotM u v]⟩
@[reducible] def plaR (ps : List Nat) : List (List Tr) := ps.map fun p : Nat => [intT (p : Int)]
def shlM (x k : Nat) : Nat := (x <<< k) % 18446744073709551616
theorem shlM_lt (x k : Nat) : shlM x k < 2 ^ 64 := Nat.mod_lt _ (by decide)
theorem shlM_bit {x k : Nat} (i : Nat) : (shlM x k).testBit i = (decide (i < 64) && decide (k ≤ i) && x.testBit (i - k)) := by
  unfold shlM
  rw [show (18446744073709551616 : Nat) = 2 ^ 64 by decide, Nat.testBit_mod_two_pow, Nat.testBit_shiftLeft, Bool.and_assoc]
def seenM (ps : List Nat) : Nat → Nat
  | 0 => 0
  | k + 1 => seenM ps k ||| shlM 1 (ps.getD k 0)
def pickM (x : Nat) (ps : List Nat) : Nat → Nat
  | 0 => 0
  | k + 1 => pickM x ps k ||| shlM ((x >>> ps.getD k 0) &&& 1) k
def putM (x : Nat) (ps : List Nat) (v : Nat) : Nat → Nat
  | 0 => x
  | k + 1 => (putM x ps v k ^^^ (putM x ps v k &&& shlM 1 (ps.getD k 0))) ||| shlM ((v >>> k) &&& 1) (ps.getD k 0)
structure PlOk (ps : List Nat) : Prop where
  lt : ∀ p ∈ ps, p < 64
  nd : ps.Nodup
  len : ps.length ≤ 64
theorem seenM_lt (ps : List Nat) : ∀ k, seenM ps k < 2 ^ 64 := by
  intro k
  induction k with
  | zero => exact Nat.two_pow_pos 64
  | succ k ih => exact Nat.or_lt_two_pow ih (shlM_lt _ _)
theorem pickM_lt (x : Nat) (ps : List Nat) : ∀ k, pickM x ps k < 2 ^ 64 := by
  intro k
  induction k with
  | zero => exact Nat.two_pow_pos 64
  | succ k ih => exact Nat.or_lt_two_pow ih (shlM_lt _ _)
theorem putM_lt {x : Nat} (hx : x < 2 ^ 64) (ps : List Nat) (v : Nat) : ∀ k, putM x ps v k < 2 ^ 64 := by
  intro k
  induction k with
  | zero => exact hx
  | succ k ih => exact Nat.or_lt_two_pow (Nat.xor_lt_two_pow ih (Nat.lt_of_le_of_lt Nat.and_le_left ih)) (shlM_lt _ _)
theorem getD_atM {ps : List Nat} {i p : Nat} (h : ps[i]? = some p) : ps.getD i 0 = p := by simp [List.getD, h]
theorem seenM_bit {ps : List Nat} (h : PlOk ps) {b : Nat} : ∀ k, k ≤ ps.length → (seenM ps k).testBit b = decide (b ∈ ps.take k) := by
  intro k
  induction k with
  | zero => intro _; simp [seenM]
  | succ k ih =>
    intro hk
    obtain ⟨p, hp⟩ : ∃ p, ps[k]? = some p := ⟨_, List.getElem?_eq_getElem (by omega)⟩
    have hlt := h.lt p (List.mem_of_getElem? hp)
    simp only [seenM, getD_atM hp]
    rw [Nat.testBit_or, ih (by omega), shlM_bit, List.take_add_one, hp]
    rw [Bool.eq_iff_iff]
    simp only [Bool.or_eq_true, decide_eq_true_eq, Bool.and_eq_true, List.mem_append, Option.toList_some, List.mem_singleton]
    constructor
    · rintro (h1 | ⟨⟨h1, h2⟩, h3⟩)
      · exact .inl h1
      · refine .inr ?_
        cases hbp : b - p with
        | zero => omega
        | succ n => rw [hbp] at h3; simp [Nat.testBit_succ] at h3
    · rintro (h1 | h1)
      · exact .inl h1
      · subst h1
        refine .inr ⟨⟨hlt, Nat.le_refl _⟩, ?_⟩
        rw [Nat.sub_self]; rfl
theorem bit_oneM (x p : Nat) : (x >>> p) &&& 1 = (x.testBit p).toNat := by
  rw [Nat.and_one_is_mod, Nat.testBit_eq_decide_div_mod_eq, Nat.shiftRight_eq_div_pow]
  have : x / 2 ^ p % 2 = 0 ∨ x / 2 ^ p % 2 = 1 := by omega
  rcases this with h | h <;> simp [h]
theorem nodup_atM {ps : List Nat} (h : ps.Nodup) {k p : Nat} (hp : ps[k]? = some p) : p ∉ ps.take k := by
  intro hm
  obtain ⟨j, hj, hjp⟩ := List.getElem_of_mem hm
  have hjk : j < k := by simp at hj; omega
  rw [List.getElem_take] at hjp
  have hk := (List.getElem?_eq_some_iff.1 hp)
  obtain ⟨hk1, hk2⟩ := hk
  exact List.pairwise_iff_getElem.1 h j k (by omega) hk1 hjk (hjp.trans hk2.symm)
set_option synthInstance.maxSize 4000 in
set_option synthInstance.maxHeartbeats 400000 in
set_option maxHeartbeats 4000000 in
theorem rightT {ps : List Nat} (h : PlOk ps) : Fn Try.prog 116 [.sl 1 (plaR ps)] (fun t => t = boolT true) := by
  refine Fn_of Try.func116 rfl (Nat.le_of_ble_eq_true rfl) (fun X => ?_)
  have hL : (plaR ps).length = ps.length := by simp [plaR]
  have hl64 := h.len
  repeat (refine StepC.go ?_)
  rw [hL]
  refine TV_loop (fun d σ B => ∃ i : Nat, d = ps.length - i ∧ i ≤ ps.length ∧ TGet σ 8 (intT i) ∧ TGet σ 7 (intT ps.length) ∧ TGet σ 6 (.sl 1 (plaR ps)) ∧ TGet σ 3 (.v (.int .u64 (seenM ps i : Nat)))) ps.length
    ⟨0, by omega, by omega, inferInstance, inferInstance, inferInstance, tget_as rfl⟩ ?_
  rintro d σ B ⟨i, rfl, hi, g8, g7, g6, g3⟩
  repeat (refine StepC.go ?_)
  refine TV_cond ?_ ?_ <;> intro hc
  · have hil : i < ps.length := by have := of_decide_eq_true hc; omega
    obtain ⟨p, hp⟩ : ∃ p, ps[i]? = some p := ⟨_, List.getElem?_eq_getElem hil⟩
    have hlt := h.lt p (List.mem_of_getElem? hp)
    have ng : NthG (plaR ps) i [intT p] := .map (fun p : Nat => [intT (p : Int)]) hp
    have hsl := seenM_lt ps i
    have : Lt64 (seenM ps i) := ⟨hsl⟩
    have d1 : decide ((p : Int) < 0) = false := by simp
    have d2 : decide (63 < (p : Int)) = false := by simp; omega
    have hb : (seenM ps i >>> p) &&& 1 = 0 := by
      rw [bit_oneM, seenM_bit h i (by omega), decide_eq_false (nodup_atM h.nd hp)]; rfl
    repeat (first | refine StepC.go ?_ | (refine TS_on rfl ?_ ?_; · first | rfl | assumption))
    rw [d1]
    skip
    rw [d2]
    skip
    rw [hb]
    repeat (first | refine StepC.go ?_ | (refine TS_puw (Pu.addi ?_) ?_; · omega) | (refine TV_cond_f ?_ ?_; · first | rfl | assumption))
    refine ⟨_, ?_, i + 1, rfl, by omega, tget_as rfl, inferInstance, inferInstance, tget_as (by simp only [seenM, getD_atM hp, shlM])⟩
    omega
  · repeat (refine StepC.go ?_)
    exact retT_1 (.inr rfl) rfl
instance : CallIs Try.prog 116 := .of Try.func116 rfl rfl
set_option synthInstance.maxSize 4000 in
set_option synthInstance.maxHeartbeats 400000 in
set_option maxHeartbeats 4000000 in
theorem pickT {x : Nat} (hx : x < 2 ^ 64) {ps : List Nat} (h : PlOk ps) : Fn Try.prog 93 [.v (.int .u64 x), .sl 1 (plaR ps)] (fun t => t = .tup [.v (.int .u64 (pickM x ps ps.length : Nat)), intT 0]) := by
  refine Fn_of Try.func93 rfl (Nat.le_of_ble_eq_true rfl) (fun X => ?_)
  have hL : (plaR ps).length = ps.length := by simp [plaR]
  have hl64 := h.len
  have : Lt64 x := ⟨hx⟩
  repeat (refine StepC.go ?_)
  refine TS_callE (rightT h) ?_
  repeat (first | refine StepC.go ?_ | (refine TV_cond_f ?_ ?_; · first | rfl | assumption))
  rw [hL]
  refine TV_loop (fun d σ B => ∃ i : Nat, d = ps.length - i ∧ i ≤ ps.length ∧ TGet σ 14 (intT i) ∧ TGet σ 13 (intT ps.length) ∧ TGet σ 12 (.sl 1 (plaR ps)) ∧ TGet σ 6 (.v (.int .u64 (pickM x ps i : Nat))) ∧ TGet σ 0 (.v (.int .u64 x))) ps.length
    ⟨0, by omega, by omega, inferInstance, inferInstance, inferInstance, tget_as rfl, inferInstance⟩ ?_
  rintro d σ B ⟨i, rfl, hi, g14, g13, g12, g6, g0⟩
  repeat (refine StepC.go ?_)
  refine TV_cond ?_ ?_ <;> intro hc
  · have hil : i < ps.length := by have := of_decide_eq_true hc; omega
    obtain ⟨p, hp⟩ : ∃ p, ps[i]? = some p := ⟨_, List.getElem?_eq_getElem hil⟩
    have ng : NthG (plaR ps) i [intT p] := .map (fun p : Nat => [intT (p : Int)]) hp
    have : Lt64 (pickM x ps i) := ⟨pickM_lt x ps i⟩
    have : Lt64 (x >>> p) := ⟨Nat.lt_of_le_of_lt (Nat.shiftRight_le x p) hx⟩
    repeat (first | refine StepC.go ?_ | (refine TS_puw (Pu.addi ?_) ?_; · omega))
    refine ⟨_, ?_, i + 1, rfl, by omega, tget_as rfl, inferInstance, inferInstance, tget_as (by simp only [pickM, getD_atM hp, shlM]), inferInstance⟩
    omega
  · have hil : i = ps.length := by have := of_decide_eq_false hc; omega
    subst hil
    repeat (refine StepC.go ?_)
    exact retT_2 (.inr rfl) rfl
instance : CallIs Try.prog 93 := .of Try.func93 rfl rfl
set_option synthInstance.maxSize 4000 in
set_option synthInstance.maxHeartbeats 400000 in
set_option maxHeartbeats 4000000 in
theorem putT' {x v : Nat} (hx : x < 2 ^ 64) {ps : List Nat} (h : PlOk ps) (hv : v < 2 ^ ps.length) (hv64 : v < 2 ^ 64) : Fn Try.prog 94 [.v (.int .u64 x), .sl 1 (plaR ps), .v (.int .u64 v)] (fun t => t = .tup [.v (.int .u64 (putM x ps v ps.length : Nat)), intT 0]) := by
  refine Fn_of Try.func94 rfl (Nat.le_of_ble_eq_true rfl) (fun X => ?_)
  have hL : (plaR ps).length = ps.length := by simp [plaR]
  have hl64 := h.len
  have : Lt64 x := ⟨hx⟩
  have : Lt64 v := ⟨hv64⟩
  have hz : v >>> ps.length = 0 := by rw [Nat.shiftRight_eq_div_pow]; exact Nat.div_eq_of_lt hv
  repeat (refine StepC.go ?_)
  refine TS_callE (rightT h) ?_
  repeat (first | refine StepC.go ?_ | (refine TS_on rfl ?_ ?_; · first | rfl | assumption))
  rw [hL]
  by_cases h64 : ps.length < 64
  · rw [show decide ((ps.length : Int) < 64) = true by simp; omega]
    repeat (first | refine StepC.go ?_ | (refine TS_on rfl ?_ ?_; · first | rfl | assumption))
    rw [hL, hz]
    repeat (first | refine StepC.go ?_ | (refine TV_cond_f ?_ ?_; · first | rfl | assumption))
    rw [hL]
    refine TV_loop (fun d σ B => ∃ i : Nat, d = ps.length - i ∧ i ≤ ps.length ∧ TGet σ 27 (intT i) ∧ TGet σ 26 (intT ps.length) ∧ TGet σ 25 (.sl 1 (plaR ps)) ∧ TGet σ 0 (.v (.int .u64 (putM x ps v i : Nat))) ∧ TGet σ 2 (.v (.int .u64 v))) ps.length
      ⟨0, by omega, by omega, inferInstance, inferInstance, inferInstance, tget_as rfl, inferInstance⟩ ?_
    rintro d σ B ⟨i, rfl, hi, g27, g26, g25, g0, g2⟩
    repeat (refine StepC.go ?_)
    refine TV_cond ?_ ?_ <;> intro hc
    · have hil : i < ps.length := by have := of_decide_eq_true hc; omega
      obtain ⟨p, hp⟩ : ∃ p, ps[i]? = some p := ⟨_, List.getElem?_eq_getElem hil⟩
      have ng : NthG (plaR ps) i [intT p] := .map (fun p : Nat => [intT (p : Int)]) hp
      have hpl := putM_lt hx ps v i
      have : Lt64 (putM x ps v i) := ⟨hpl⟩
      have : Lt64 (v >>> i) := ⟨Nat.lt_of_le_of_lt (Nat.shiftRight_le v i) hv64⟩
      have ha : AriT .andNot .u64 ((putM x ps v i : Nat) : Int) (((1 <<< p) % 18446744073709551616 : Nat) : Int) ((putM x ps v i ^^^ (putM x ps v i &&& shlM 1 p) : Nat) : Int) := ari_andNot hpl (shlM_lt 1 p)
      have : Lt64 (putM x ps v i ^^^ (putM x ps v i &&& shlM 1 p)) := ⟨Nat.xor_lt_two_pow hpl (Nat.lt_of_le_of_lt Nat.and_le_left hpl)⟩
      repeat (first | refine StepC.go ?_ | (refine TS_puw (Pu.addi ?_) ?_; · omega) | refine TD_take rfl rfl ?_ | refine TV_draw (id := 6) (plan := [.take 0, .take 1, .take 2, .take 3, .take 4, .take 5, .take 6, .take 7, .take 8, .take 9, .take 10, .take 11]) (by kernel_rfl) ?_)
      refine ⟨_, ?_, i + 1, rfl, by omega, tget_as rfl, inferInstance, inferInstance, tget_as (by simp only [putM, getD_atM hp, shlM]), inferInstance⟩
      omega
    · have hil : i = ps.length := by have := of_decide_eq_false hc; omega
      subst hil
      repeat (refine StepC.go ?_)
      exact retT_2 (.inr rfl) rfl
  · rw [show decide ((ps.length : Int) < 64) = false by simp; omega]
    repeat (first | refine StepC.go ?_ | (refine TS_on rfl ?_ ?_; · first | rfl | assumption) | (refine TS_off rfl ?_ ?_; · first | rfl | assumption) | (refine TV_cond_f ?_ ?_; · first | rfl | assumption))
    rw [hL]
    refine TV_loop (fun d σ B => ∃ i : Nat, d = ps.length - i ∧ i ≤ ps.length ∧ TGet σ 27 (intT i) ∧ TGet σ 26 (intT ps.length) ∧ TGet σ 25 (.sl 1 (plaR ps)) ∧ TGet σ 0 (.v (.int .u64 (putM x ps v i : Nat))) ∧ TGet σ 2 (.v (.int .u64 v))) ps.length
      ⟨0, by omega, by omega, inferInstance, inferInstance, inferInstance, tget_as rfl, inferInstance⟩ ?_
    rintro d σ B ⟨i, rfl, hi, g27, g26, g25, g0, g2⟩
    repeat (refine StepC.go ?_)
    refine TV_cond ?_ ?_ <;> intro hc
    · have hil : i < ps.length := by have := of_decide_eq_true hc; omega
      obtain ⟨p, hp⟩ : ∃ p, ps[i]? = some p := ⟨_, List.getElem?_eq_getElem hil⟩
      have ng : NthG (plaR ps) i [intT p] := .map (fun p : Nat => [intT (p : Int)]) hp
      have hpl := putM_lt hx ps v i
      have : Lt64 (putM x ps v i) := ⟨hpl⟩
      have : Lt64 (v >>> i) := ⟨Nat.lt_of_le_of_lt (Nat.shiftRight_le v i) hv64⟩
      have ha : AriT .andNot .u64 ((putM x ps v i : Nat) : Int) (((1 <<< p) % 18446744073709551616 : Nat) : Int) ((putM x ps v i ^^^ (putM x ps v i &&& shlM 1 p) : Nat) : Int) := ari_andNot hpl (shlM_lt 1 p)
      have : Lt64 (putM x ps v i ^^^ (putM x ps v i &&& shlM 1 p)) := ⟨Nat.xor_lt_two_pow hpl (Nat.lt_of_le_of_lt Nat.and_le_left hpl)⟩
      repeat (first | refine StepC.go ?_ | (refine TS_puw (Pu.addi ?_) ?_; · omega) | refine TD_take rfl rfl ?_ | refine TV_draw (id := 6) (plan := [.take 0, .take 1, .take 2, .take 3, .take 4, .take 5, .take 6, .take 7, .take 8, .take 9, .take 10, .take 11]) (by kernel_rfl) ?_)
      refine ⟨_, ?_, i + 1, rfl, by omega, tget_as rfl, inferInstance, inferInstance, tget_as (by simp only [putM, getD_atM hp, shlM]), inferInstance⟩
      omega
    · have hil : i = ps.length := by have := of_decide_eq_false hc; omega
      subst hil
      repeat (refine StepC.go ?_)
      exact retT_2 (.inr rfl) rfl
instance : CallIs Try.prog 94 := .of Try.func94 rfl rfl
end Go.Ideal

-- Tb
set_option linter.unusedSimpArgs false
set_option linter.unusedVariables false
namespace Go.Ideal
open Go Go.Proofs Go.RowKit
/-! ### Is it so of all operations? -/
def idxF {α : Type} (p : α → Bool) : List α → Nat → Int
  | [], _ => -1
  | r :: rs, i => if p r = true then i else idxF p rs (i + 1)
theorem idxF_any {α : Type} (p : α → Bool) : ∀ (l : List α) (i : Nat), decide (0 ≤ idxF p l i) = l.any p := by
  intro l
  induction l with
  | nil => intro i; simp [idxF]
  | cons a l ih =>
    intro i
    rw [idxF]
    by_cases h : p a = true
    · simp [h]
    · rw [if_neg h, ih]; simp [h]
theorem drop_cons {α : Type} {l : List α} {i : Nat} {a : α} (h : l[i]? = some a) : l.drop i = a :: l.drop (i + 1) := by
  have hi := (List.getElem?_eq_some_iff.1 h).1
  rw [List.drop_eq_getElem_cons hi]
  rw [List.getElem?_eq_getElem hi] at h
  rw [Option.some.inj h]
theorem indexOpsT {os : List OpD} {f : Nat} {a b : List Tr} [c : CallIs Try.prog f] {p : OpD → Bool} (hp : ∀ o ∈ os, Fn Try.prog f ((a ++ [.agg (opCs o)]) ++ b) (fun r => r = boolT (p o))) : Fn Try.prog 113 [.sl 7 (opRows os), .fn f a b] (fun r => r = intT (idxF p os 0)) := by
  refine Fn_of Try.func113 rfl (Nat.le_of_ble_eq_true rfl) (fun X => ?_)
  refine TV_fact 0 (fun F v h => rep_small h) fun hsm => ?_
  rw [show (opRows os).length = os.length by simp [opRows]] at hsm
  repeat (refine StepC.go ?_)
  refine TV_loop (fun d σ B => ∃ i : Nat, d = os.length - i ∧ i ≤ os.length ∧ TGet σ 8 (intT i) ∧ TGet σ 7 (intT os.length) ∧ TGet σ 0 (.sl 7 (opRows os)) ∧ TGet σ 1 (.fn f a b) ∧ SubB [] B ∧ idxF p os 0 = idxF p (os.drop i) i) os.length
    ⟨0, by omega, by omega, inferInstance, tget_as (by simp [opRows]), inferInstance, inferInstance, inferInstance, rfl⟩ ?_
  rintro d σ B ⟨i, rfl, hi, g8, g7, g0, g1, hB, hK⟩
  refine TV_drop _ hB.eq ?_
  repeat' (first | refine StepC.go ?_ | (refine TV_cond ?_ ?_ <;> intro hc <;> try (cases hc; done)))
  · have hil : i < os.length := by simp at hc; omega
    obtain ⟨o, ho⟩ : ∃ o, os[i]? = some o := ⟨_, List.getElem?_eq_getElem hil⟩
    have ng : NthG (opRows os) i (opCs o) := .map opCs ho
    rw [drop_cons ho, idxF] at hK
    repeat (refine StepC.go ?_)
    refine TS_callV (hp o (List.mem_of_getElem? ho)) ?_
    rintro _ rfl
    repeat' (first | refine StepC.go ?_ | (refine TS_puw (Pu.addi ?_) ?_; · omega) | (refine TV_cond ?_ ?_ <;> intro hc <;> try (cases hc; done)))
    · refine retT_1 (.inr rfl) ?_
      simp only [tret]
      rw [hK, if_pos hc]
    · refine ⟨_, ?_, i + 1, rfl, by omega, inferInstance, inferInstance, inferInstance, inferInstance, inferInstance, by rw [hK, if_neg (by rw [hc]; decide)]⟩
      omega
  · have hil : i = os.length := by simp at hc; omega
    refine retT_1 (.inr rfl) ?_
    simp only [tret]
    rw [hK, List.drop_of_length_le (by omega)]; rfl
instance : CallIs Try.prog 113 := .of Try.func113 rfl rfl
theorem anyOpsT {os : List OpD} {f : Nat} {a b : List Tr} [c : CallIs Try.prog f] {p : OpD → Bool} (hp : ∀ o ∈ os, Fn Try.prog f ((a ++ [.agg (opCs o)]) ++ b) (fun r => r = boolT (p o))) : Fn Try.prog 84 [.sl 7 (opRows os), .fn f a b] (fun r => r = boolT (os.any p)) := by
  refine Fn_of Try.func84 rfl (Nat.le_of_ble_eq_true rfl) (fun X => ?_)
  repeat (refine StepC.go ?_)
  refine TS_call (indexOpsT hp) ?_
  rintro _ rfl
  repeat (refine StepC.go ?_)
  refine retT_1 (.inr rfl) ?_
  simp only [tret]
  rw [idxF_any]
instance : CallIs Try.prog 84 := .of Try.func84 rfl rfl
theorem all1T {o : OpD} {f : Nat} {a b : List Tr} [c : CallIs Try.prog f] {p : Bool} (hp : Fn Try.prog f ((a ++ [.agg (opCs o)]) ++ b) (fun r => r = boolT p)) : Fn Try.prog 85 [.agg (opCs o), .pf [.fn f a b]] (fun r => r = boolT (!p)) := by
  refine Fn_of Try.func85 rfl (Nat.le_of_ble_eq_true rfl) (fun X => ?_)
  repeat (first | refine StepC.go ?_ | intro _)
  refine TS_callV hp ?_
  rintro _ rfl
  repeat (refine StepC.go ?_)
  exact retT_1 (.inr rfl) rfl
instance : CallIs Try.prog 85 := .of Try.func85 rfl rfl
theorem allT {c : CircD} (hw : CircW c) {f : Nat} {a b : List Tr} [ci : CallIs Try.prog f] {p : OpD → Bool} (hp : ∀ o ∈ c.ops, Fn Try.prog f ((a ++ [.agg (opCs o)]) ++ b) (fun r => r = boolT (p o))) : Fn Try.prog 55 [circT c, .fn f a b] (fun r => r = .tup [boolT (if (checkC c).2 = 0 then c.ops.all p else false), intT (checkC c).2]) := by
  refine Fn_of Try.func55 rfl (Nat.le_of_ble_eq_true rfl) (fun X => ?_)
  repeat (first | refine StepC.go ?_ | intro _)
  refine TS_callE (checkT hw) ?_
  repeat' (first | refine StepC.go ?_ | (refine TV_cond ?_ ?_ <;> intro hc <;> try (cases hc; done)))
  · refine retT_2 (.inr rfl) ?_
    simp only [tret]
    rw [if_neg (by simpa using hc)]
  · have hck : (checkC c).2 = 0 := by simpa using hc
    refine TS_callE (anyOpsT (p := fun o => !p o) fun o ho => all1T (hp o ho)) ?_
    repeat (refine StepC.go ?_)
    refine retT_2 (.inr rfl) ?_
    simp only [tret]
    rw [if_pos hck, hck]
    simp only [List.any_eq_not_all_not, Bool.not_not]
instance : CallIs Try.prog 55 := .of Try.func55 rfl rfl
def cleanO (o : OpD) : Bool := if o.kind = 1 then !o.iff else false
theorem clean1T (o : OpD) : Fn Try.prog 91 [.agg (opCs o)] (fun r => r = boolT (cleanO o)) := by
  refine Fn_of Try.func91 rfl (Nat.le_of_ble_eq_true rfl) (fun X => ?_)
  repeat' (first | refine StepC.go ?_ | intro _ | (refine TS_on rfl ?_ ?_; · first | rfl | assumption) | (refine TS_off rfl ?_ ?_; · first | rfl | assumption) | (refine TS_puw (Pu.pick_f ?_) ?_; · first | rfl | assumption) | (refine TS_guard rfl ?_ ?_ <;> intro hg))
  all_goals
    refine retT_1 (.inr rfl) ?_
    simp_all [tret, cleanO]
instance : CallIs Try.prog 91 := .of Try.func91 rfl rfl
def allC (c : CircD) (p : OpD → Bool) : Bool × Int := (if (checkC c).2 = 0 then c.ops.all p else false, (checkC c).2)
theorem circCleanT {c : CircD} (hw : CircW c) : Fn Try.prog 61 [circT c] (fun r => r = .tup [boolT (allC c cleanO).1, intT (allC c cleanO).2]) := by
  refine Fn_of Try.func61 rfl (Nat.le_of_ble_eq_true rfl) (fun X => ?_)
  repeat (first | refine StepC.go ?_ | intro _)
  refine TS_callE (allT hw (p := cleanO) fun o ho => clean1T o) ?_
  repeat (refine StepC.go ?_)
  exact retT_2 (.inr rfl) rfl
instance : CallIs Try.prog 61 := .of Try.func61 rfl rfl
end Go.Ideal

-- Ja
set_option linter.unusedSimpArgs false
set_option linter.unusedVariables false
namespace Go.Ideal
open Go Go.Proofs Go.RowKit
/-! ### What tells the columns -/
inductive ColD where
  | flip (bits : Int) (turns : List Int)
  | last (n turn : Int)
  | mixed (own other ownLast : Int)
  | swapped (a b turn : Int)
  | turnedY
  | controlled
def colT : ColD → Tr
  | .flip b ts => .fn 124 [] [.pf [intT b], .pf [.sl 1 (intRows ts)]]
  | .last n t => .fn 125 [] [.pf [intT n], .pf [intT t]]
  | .mixed a b c => .fn 126 [] [.pf [intT a], .pf [intT b], .pf [intT c]]
  | .swapped a b t => .fn 127 [] [.pf [intT a], .pf [intT b], .pf [intT t]]
  | .turnedY => .fn 106 [] []
  | .controlled => .fn 107 [] []
theorem flipT (b : Int) (ts : List Int) : Fn Try.prog 102 [intT b, .sl 1 (intRows ts)] (fun r => r = colT (.flip b ts)) := by
  refine Fn_of Try.func102 rfl (Nat.le_of_ble_eq_true rfl) (fun X => ?_)
  repeat (first | refine StepC.go ?_ | intro _)
  exact retT_1 (.inr rfl) rfl
theorem lastT (a b : Int) : Fn Try.prog 103 [intT a, intT b] (fun r => r = colT (.last a b)) := by
  refine Fn_of Try.func103 rfl (Nat.le_of_ble_eq_true rfl) (fun X => ?_)
  repeat (first | refine StepC.go ?_ | intro _)
  exact retT_1 (.inr rfl) rfl
theorem mixedT (a b c : Int) : Fn Try.prog 104 [intT a, intT b, intT c] (fun r => r = colT (.mixed a b c)) := by
  refine Fn_of Try.func104 rfl (Nat.le_of_ble_eq_true rfl) (fun X => ?_)
  repeat (first | refine StepC.go ?_ | intro _)
  exact retT_1 (.inr rfl) rfl
theorem swappedT (a b c : Int) : Fn Try.prog 105 [intT a, intT b, intT c] (fun r => r = colT (.swapped a b c)) := by
  refine Fn_of Try.func105 rfl (Nat.le_of_ble_eq_true rfl) (fun X => ?_)
  repeat (first | refine StepC.go ?_ | intro _)
  exact retT_1 (.inr rfl) rfl
/-- memory that is new since h0 -/
def newMem (h0 H : IHp) : Mem := fun b off => if h0.fresh ≤ b then H.cell? b off else none
theorem newMem_ext {h0 H H' : IHp} (e : Ext H H') : Sub (newMem h0 H) (newMem h0 H') := fun b off v h => by
  unfold newMem at *
  split at h
  · rename_i hb; rw [if_pos hb]; exact cell_ext e h
  · cases h
theorem newMem_sub {h0 H : IHp} : Sub (newMem h0 H) H.cell? := fun b off v h => by
  unfold newMem at h
  split at h
  · exact h
  · cases h
/-- a closure that is made, at level 2 -/
theorem made_ev {f : FuncId} {ts : List Tr} {t : Tr} {vs : List Value} {h0 H : IHp} (x : Fn Try.prog f ts (fun r => r = t)) (hf : h0.fresh ≤ H.fresh) (hv : RepL (newMem h0 H) ts vs) : EvX Try.prog f vs.toArray H (fun v H' => Ext H H' ∧ Rep (newMem h0 H') t v) := by
  unfold Fn at x
  refine (x (newMem h0 H) H vs newMem_sub hv).mono fun v H' ⟨e, F, r, a1, a2, a3, a4, a5⟩ => ⟨e, ?_⟩
  rw [a5] at a4
  refine Rep.sub (fun b off v h => ?_) a4
  have h1 := a2 _ _ _ h
  unfold newMem
  rcases a3 b off v h with h2 | h2
  · unfold newMem at h2
    split at h2
    · rename_i hb; rw [if_pos hb]; exact h1
    · cases h2
  · rw [if_pos (by omega)]; exact h1
theorem slice_new {h0 H : IHp} {e : Nat} (hf : h0.fresh ≤ H.fresh) (ts : List Int) (hl : ts.length < 2 ^ 63) : Rep (newMem h0 (H.push (.cells (ints ts) e true))) (.sl 1 (intRows ts)) (.slice (some (ad H.fresh 0)) ts.length ts.length) := by
  simp only [Rep]
  refine ⟨_, _, _, rfl, by simp [intRows], Nat.le_refl _, hl, fun d hd => by cases hd; exact .inl rfl, ?_⟩
  have o : ObjIs (H.push (.cells (ints ts) e true)) H.fresh (ints ts) e true := inferInstance
  have hc : ∀ (off : Nat) v, (ints ts)[off]? = some v → newMem h0 (H.push (.cells (ints ts) e true)) H.fresh off = some v := fun off v hv => by
    unfold newMem
    rw [if_pos hf, o.cell]; exact hv
  have key : ∀ (xs : List Int) (off : Nat), (∀ (i : Nat) v, (ints xs)[i]? = some v → newMem h0 (H.push (.cells (ints ts) e true)) H.fresh (off + i) = some v) → RepR (newMem h0 (H.push (.cells (ints ts) e true))) H.fresh 1 (intRows xs) off := by
    intro xs
    induction xs with
    | nil => intro off _; simp [intRows, RepR]
    | cons x xs ih =>
      intro off h
      simp only [intRows, List.map_cons, RepR]
      refine ⟨⟨[.int .i64 x], ?_, RepL.cons (rep_v _) RepL.nil⟩, ?_⟩
      · have := h 0 (.int .i64 x) rfl
        simp only [Nat.add_zero] at this
        simp only [rowM, this, Option.bind_some]
      · refine ih (off + 1) fun i v hv => ?_
        have := h (i + 1) v (by simpa [ints] using hv)
        rw [show off + 1 + i = off + (i + 1) by omega]; exact this
  exact key ts 0 (fun i v hv => by rw [Nat.zero_add]; exact hc i v hv)
end Go.Ideal
