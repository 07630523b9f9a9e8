/- Part 3 of what the proof stands on: an interpreter over an ideal memory that is proved sound, steps over it, and contracts of the functions that are called. No condition: no law is claimed here. -/
import Derived.Test.YtbkldjahedmeiaaC2
import Derived.KernelRfl
import Derived.Test.YtbkldjahedmeiaaProg
import Derived.Carry
import Derived.OpenShut
-- R2Ty
set_option linter.unusedSimpArgs false
set_option linter.unusedVariables false
namespace Go.Ideal
open Go Go.Proofs
instance : SizeIs Try.prog 1 1 := ⟨by kernel_rfl⟩
instance : AggIs Try.prog 1 false := ⟨by kernel_rfl⟩
instance : ZeroIs Try.prog 1 (Value.nilFunc) := ⟨by kernel_rfl⟩
instance : BytesIs Try.prog 1 1 8 := ⟨Try.t1, _, by kernel_rfl, rfl, rfl, rfl, rfl, by decide, by decide⟩
instance : UnderIs Try.prog 2 (.int IntKind.i64) := ⟨Try.underlying2⟩
instance : SizeIs Try.prog 2 1 := ⟨by kernel_rfl⟩
instance : AggIs Try.prog 2 false := ⟨by kernel_rfl⟩
instance : ZeroIs Try.prog 2 ((Value.int IntKind.i64 0)) := ⟨by kernel_rfl⟩
instance : BytesIs Try.prog 2 1 8 := ⟨Try.t2, _, by kernel_rfl, rfl, rfl, rfl, rfl, by decide, by decide⟩
instance : UnderIs Try.prog 3 (.int IntKind.i64) := ⟨Try.underlying3⟩
instance : SizeIs Try.prog 3 1 := ⟨by kernel_rfl⟩
instance : AggIs Try.prog 3 false := ⟨by kernel_rfl⟩
instance : ZeroIs Try.prog 3 ((Value.int IntKind.i64 0)) := ⟨by kernel_rfl⟩
instance : BytesIs Try.prog 3 1 8 := ⟨Try.t3, _, by kernel_rfl, rfl, rfl, rfl, rfl, by decide, by decide⟩
instance : UnderIs Try.prog 4 (.bool) := ⟨Try.underlying4⟩
instance : SizeIs Try.prog 4 1 := ⟨by kernel_rfl⟩
instance : AggIs Try.prog 4 false := ⟨by kernel_rfl⟩
instance : ZeroIs Try.prog 4 ((Value.bool false)) := ⟨by kernel_rfl⟩
instance : BytesIs Try.prog 4 1 1 := ⟨Try.t4, _, by kernel_rfl, rfl, rfl, rfl, rfl, by decide, by decide⟩
instance : UnderIs Try.prog 5 (.int IntKind.u8) := ⟨Try.underlying5⟩
instance : SizeIs Try.prog 5 1 := ⟨by kernel_rfl⟩
instance : AggIs Try.prog 5 false := ⟨by kernel_rfl⟩
instance : ZeroIs Try.prog 5 ((Value.int IntKind.u8 0)) := ⟨by kernel_rfl⟩
instance : BytesIs Try.prog 5 1 1 := ⟨Try.t5, _, by kernel_rfl, rfl, rfl, rfl, rfl, by decide, by decide⟩
instance : UnderIs Try.prog 6 (.int IntKind.u8) := ⟨Try.underlying6⟩
instance : SizeIs Try.prog 6 1 := ⟨by kernel_rfl⟩
instance : AggIs Try.prog 6 false := ⟨by kernel_rfl⟩
instance : ZeroIs Try.prog 6 ((Value.int IntKind.u8 0)) := ⟨by kernel_rfl⟩
instance : BytesIs Try.prog 6 1 1 := ⟨Try.t6, _, by kernel_rfl, rfl, rfl, rfl, rfl, by decide, by decide⟩
instance : FieldIs Try.prog 7 0 0 2 1 := ⟨_, _, Try.underlying7, rfl, rfl, rfl, by kernel_rfl, by decide⟩
instance : FieldIs Try.prog 7 1 1 3 1 := ⟨_, _, Try.underlying7, rfl, rfl, rfl, by kernel_rfl, by decide⟩
instance : FieldIs Try.prog 7 2 2 4 1 := ⟨_, _, Try.underlying7, rfl, rfl, rfl, by kernel_rfl, by decide⟩
instance : FieldIs Try.prog 7 3 3 6 1 := ⟨_, _, Try.underlying7, rfl, rfl, rfl, by kernel_rfl, by decide⟩
instance : StructOk Try.prog 7 := ⟨_, Try.underlying7, by kernel_rfl⟩
instance : SizeIs Try.prog 7 4 := ⟨by kernel_rfl⟩
instance : AggIs Try.prog 7 true := ⟨by kernel_rfl⟩
instance : ZeroIs Try.prog 7 ((Value.agg #[Value.int IntKind.i64 0, Value.int IntKind.i64 0, Value.bool false, Value.int IntKind.u8 0])) := ⟨by kernel_rfl⟩
instance : BytesIs Try.prog 7 4 24 := ⟨Try.t7, _, by kernel_rfl, rfl, rfl, rfl, rfl, by decide, by decide⟩
instance : FieldIs Try.prog 8 0 0 2 1 := ⟨_, _, Try.underlying8, rfl, rfl, rfl, by kernel_rfl, by decide⟩
instance : FieldIs Try.prog 8 1 1 3 1 := ⟨_, _, Try.underlying8, rfl, rfl, rfl, by kernel_rfl, by decide⟩
instance : FieldIs Try.prog 8 2 2 4 1 := ⟨_, _, Try.underlying8, rfl, rfl, rfl, by kernel_rfl, by decide⟩
instance : FieldIs Try.prog 8 3 3 6 1 := ⟨_, _, Try.underlying8, rfl, rfl, rfl, by kernel_rfl, by decide⟩
instance : StructOk Try.prog 8 := ⟨_, Try.underlying8, by kernel_rfl⟩
instance : SizeIs Try.prog 8 4 := ⟨by kernel_rfl⟩
instance : AggIs Try.prog 8 true := ⟨by kernel_rfl⟩
instance : ZeroIs Try.prog 8 ((Value.agg #[Value.int IntKind.i64 0, Value.int IntKind.i64 0, Value.bool false, Value.int IntKind.u8 0])) := ⟨by kernel_rfl⟩
instance : BytesIs Try.prog 8 4 24 := ⟨Try.t8, _, by kernel_rfl, rfl, rfl, rfl, rfl, by decide, by decide⟩
instance : UnderIs Try.prog 9 (.string) := ⟨Try.underlying9⟩
instance : SizeIs Try.prog 9 1 := ⟨by kernel_rfl⟩
instance : AggIs Try.prog 9 false := ⟨by kernel_rfl⟩
instance : ZeroIs Try.prog 9 ((Value.string ByteArray.empty)) := ⟨by kernel_rfl⟩
instance : BytesIs Try.prog 9 1 16 := ⟨Try.t9, _, by kernel_rfl, rfl, rfl, rfl, rfl, by decide, by decide⟩
instance : UnderIs Try.prog 10 (.string) := ⟨Try.underlying10⟩
instance : SizeIs Try.prog 10 1 := ⟨by kernel_rfl⟩
instance : AggIs Try.prog 10 false := ⟨by kernel_rfl⟩
instance : ZeroIs Try.prog 10 ((Value.string ByteArray.empty)) := ⟨by kernel_rfl⟩
instance : BytesIs Try.prog 10 1 16 := ⟨Try.t10, _, by kernel_rfl, rfl, rfl, rfl, rfl, by decide, by decide⟩
instance : UnderIs Try.prog 11 (.string) := ⟨Try.underlying11⟩
instance : SizeIs Try.prog 11 1 := ⟨by kernel_rfl⟩
instance : AggIs Try.prog 11 false := ⟨by kernel_rfl⟩
instance : ZeroIs Try.prog 11 ((Value.string ByteArray.empty)) := ⟨by kernel_rfl⟩
instance : BytesIs Try.prog 11 1 16 := ⟨Try.t11, _, by kernel_rfl, rfl, rfl, rfl, rfl, by decide, by decide⟩
instance : UnderIs Try.prog 12 (.int IntKind.u64) := ⟨Try.underlying12⟩
instance : SizeIs Try.prog 12 1 := ⟨by kernel_rfl⟩
instance : AggIs Try.prog 12 false := ⟨by kernel_rfl⟩
instance : ZeroIs Try.prog 12 ((Value.int IntKind.u64 0)) := ⟨by kernel_rfl⟩
instance : BytesIs Try.prog 12 1 8 := ⟨Try.t12, _, by kernel_rfl, rfl, rfl, rfl, rfl, by decide, by decide⟩
instance : FieldIs Try.prog 13 0 0 9 1 := ⟨_, _, Try.underlying13, rfl, rfl, rfl, by kernel_rfl, by decide⟩
instance : FieldIs Try.prog 13 1 1 12 1 := ⟨_, _, Try.underlying13, rfl, rfl, rfl, by kernel_rfl, by decide⟩
instance : StructOk Try.prog 13 := ⟨_, Try.underlying13, by kernel_rfl⟩
instance : SizeIs Try.prog 13 2 := ⟨by kernel_rfl⟩
instance : AggIs Try.prog 13 true := ⟨by kernel_rfl⟩
instance : ZeroIs Try.prog 13 ((Value.agg #[Value.string ByteArray.empty, Value.int IntKind.u64 0])) := ⟨by kernel_rfl⟩
instance : BytesIs Try.prog 13 2 24 := ⟨Try.t13, _, by kernel_rfl, rfl, rfl, rfl, rfl, by decide, by decide⟩
instance : FieldIs Try.prog 14 0 0 9 1 := ⟨_, _, Try.underlying14, rfl, rfl, rfl, by kernel_rfl, by decide⟩
instance : FieldIs Try.prog 14 1 1 12 1 := ⟨_, _, Try.underlying14, rfl, rfl, rfl, by kernel_rfl, by decide⟩
instance : StructOk Try.prog 14 := ⟨_, Try.underlying14, by kernel_rfl⟩
instance : SizeIs Try.prog 14 2 := ⟨by kernel_rfl⟩
instance : AggIs Try.prog 14 true := ⟨by kernel_rfl⟩
instance : ZeroIs Try.prog 14 ((Value.agg #[Value.string ByteArray.empty, Value.int IntKind.u64 0])) := ⟨by kernel_rfl⟩
instance : BytesIs Try.prog 14 2 24 := ⟨Try.t14, _, by kernel_rfl, rfl, rfl, rfl, rfl, by decide, by decide⟩
instance : UnderIs Try.prog 15 (.pointer 220) := ⟨Try.underlying15⟩
instance : SizeIs Try.prog 15 1 := ⟨by kernel_rfl⟩
instance : AggIs Try.prog 15 false := ⟨by kernel_rfl⟩
instance : ZeroIs Try.prog 15 ((Value.pointer none)) := ⟨by kernel_rfl⟩
instance : BytesIs Try.prog 15 1 8 := ⟨Try.t15, _, by kernel_rfl, rfl, rfl, rfl, rfl, by decide, by decide⟩
instance : UnderIs Try.prog 16 (.pointer 223) := ⟨Try.underlying16⟩
instance : SizeIs Try.prog 16 1 := ⟨by kernel_rfl⟩
instance : AggIs Try.prog 16 false := ⟨by kernel_rfl⟩
instance : ZeroIs Try.prog 16 ((Value.pointer none)) := ⟨by kernel_rfl⟩
instance : BytesIs Try.prog 16 1 8 := ⟨Try.t16, _, by kernel_rfl, rfl, rfl, rfl, rfl, by decide, by decide⟩
instance : UnderIs Try.prog 17 (.pointer 233) := ⟨Try.underlying17⟩
instance : SizeIs Try.prog 17 1 := ⟨by kernel_rfl⟩
instance : AggIs Try.prog 17 false := ⟨by kernel_rfl⟩
instance : ZeroIs Try.prog 17 ((Value.pointer none)) := ⟨by kernel_rfl⟩
instance : BytesIs Try.prog 17 1 8 := ⟨Try.t17, _, by kernel_rfl, rfl, rfl, rfl, rfl, by decide, by decide⟩
instance : FieldIs Try.prog 18 0 0 17 1 := ⟨_, _, Try.underlying18, rfl, rfl, rfl, by kernel_rfl, by decide⟩
instance : StructOk Try.prog 18 := ⟨_, Try.underlying18, by kernel_rfl⟩
instance : SizeIs Try.prog 18 1 := ⟨by kernel_rfl⟩
instance : AggIs Try.prog 18 true := ⟨by kernel_rfl⟩
instance : ZeroIs Try.prog 18 ((Value.agg #[Value.pointer none])) := ⟨by kernel_rfl⟩
instance : BytesIs Try.prog 18 1 8 := ⟨Try.t18, _, by kernel_rfl, rfl, rfl, rfl, rfl, by decide, by decide⟩
instance : FieldIs Try.prog 19 0 0 17 1 := ⟨_, _, Try.underlying19, rfl, rfl, rfl, by kernel_rfl, by decide⟩
instance : StructOk Try.prog 19 := ⟨_, Try.underlying19, by kernel_rfl⟩
instance : SizeIs Try.prog 19 1 := ⟨by kernel_rfl⟩
instance : AggIs Try.prog 19 true := ⟨by kernel_rfl⟩
instance : ZeroIs Try.prog 19 ((Value.agg #[Value.pointer none])) := ⟨by kernel_rfl⟩
instance : BytesIs Try.prog 19 1 8 := ⟨Try.t19, _, by kernel_rfl, rfl, rfl, rfl, rfl, by decide, by decide⟩
instance : UnderIs Try.prog 21 (.int IntKind.i32) := ⟨Try.underlying21⟩
instance : SizeIs Try.prog 21 1 := ⟨by kernel_rfl⟩
instance : AggIs Try.prog 21 false := ⟨by kernel_rfl⟩
instance : ZeroIs Try.prog 21 ((Value.int IntKind.i32 0)) := ⟨by kernel_rfl⟩
instance : BytesIs Try.prog 21 1 4 := ⟨Try.t21, _, by kernel_rfl, rfl, rfl, rfl, rfl, by decide, by decide⟩
instance : UnderIs Try.prog 22 (.slice 44) := ⟨Try.underlying22⟩
instance : SizeIs Try.prog 22 1 := ⟨by kernel_rfl⟩
instance : AggIs Try.prog 22 false := ⟨by kernel_rfl⟩
instance : ZeroIs Try.prog 22 ((Value.slice none 0 0)) := ⟨by kernel_rfl⟩
instance : BytesIs Try.prog 22 1 24 := ⟨Try.t22, _, by kernel_rfl, rfl, rfl, rfl, rfl, by decide, by decide⟩
instance : FieldIs Try.prog 23 0 0 3 1 := ⟨_, _, Try.underlying23, rfl, rfl, rfl, by kernel_rfl, by decide⟩
instance : FieldIs Try.prog 23 1 1 3 1 := ⟨_, _, Try.underlying23, rfl, rfl, rfl, by kernel_rfl, by decide⟩
instance : FieldIs Try.prog 23 2 2 22 1 := ⟨_, _, Try.underlying23, rfl, rfl, rfl, by kernel_rfl, by decide⟩
instance : StructOk Try.prog 23 := ⟨_, Try.underlying23, by kernel_rfl⟩
instance : SizeIs Try.prog 23 3 := ⟨by kernel_rfl⟩
instance : AggIs Try.prog 23 true := ⟨by kernel_rfl⟩
instance : ZeroIs Try.prog 23 ((Value.agg #[Value.int IntKind.i64 0, Value.int IntKind.i64 0, Value.slice none 0 0])) := ⟨by kernel_rfl⟩
instance : BytesIs Try.prog 23 3 40 := ⟨Try.t23, _, by kernel_rfl, rfl, rfl, rfl, rfl, by decide, by decide⟩
instance : FieldIs Try.prog 24 0 0 3 1 := ⟨_, _, Try.underlying24, rfl, rfl, rfl, by kernel_rfl, by decide⟩
instance : FieldIs Try.prog 24 1 1 3 1 := ⟨_, _, Try.underlying24, rfl, rfl, rfl, by kernel_rfl, by decide⟩
instance : FieldIs Try.prog 24 2 2 22 1 := ⟨_, _, Try.underlying24, rfl, rfl, rfl, by kernel_rfl, by decide⟩
instance : StructOk Try.prog 24 := ⟨_, Try.underlying24, by kernel_rfl⟩
instance : SizeIs Try.prog 24 3 := ⟨by kernel_rfl⟩
instance : AggIs Try.prog 24 true := ⟨by kernel_rfl⟩
instance : ZeroIs Try.prog 24 ((Value.agg #[Value.int IntKind.i64 0, Value.int IntKind.i64 0, Value.slice none 0 0])) := ⟨by kernel_rfl⟩
instance : BytesIs Try.prog 24 3 40 := ⟨Try.t24, _, by kernel_rfl, rfl, rfl, rfl, rfl, by decide, by decide⟩
instance : UnderIs Try.prog 25 (.slice 3) := ⟨Try.underlying25⟩
instance : SizeIs Try.prog 25 1 := ⟨by kernel_rfl⟩
instance : AggIs Try.prog 25 false := ⟨by kernel_rfl⟩
instance : ZeroIs Try.prog 25 ((Value.slice none 0 0)) := ⟨by kernel_rfl⟩
instance : BytesIs Try.prog 25 1 24 := ⟨Try.t25, _, by kernel_rfl, rfl, rfl, rfl, rfl, by decide, by decide⟩
instance : SizeIs Try.prog 26 1 := ⟨by kernel_rfl⟩
instance : AggIs Try.prog 26 false := ⟨by kernel_rfl⟩
instance : ZeroIs Try.prog 26 (Value.nilFunc) := ⟨by kernel_rfl⟩
instance : BytesIs Try.prog 26 1 8 := ⟨Try.t26, _, by kernel_rfl, rfl, rfl, rfl, rfl, by decide, by decide⟩
instance : UnderIs Try.prog 27 (.slice 25) := ⟨Try.underlying27⟩
instance : SizeIs Try.prog 27 1 := ⟨by kernel_rfl⟩
instance : AggIs Try.prog 27 false := ⟨by kernel_rfl⟩
instance : ZeroIs Try.prog 27 ((Value.slice none 0 0)) := ⟨by kernel_rfl⟩
instance : BytesIs Try.prog 27 1 24 := ⟨Try.t27, _, by kernel_rfl, rfl, rfl, rfl, rfl, by decide, by decide⟩
instance : SizeIs Try.prog 29 1 := ⟨by kernel_rfl⟩
instance : AggIs Try.prog 29 false := ⟨by kernel_rfl⟩
instance : ZeroIs Try.prog 29 (Value.nilFunc) := ⟨by kernel_rfl⟩
instance : BytesIs Try.prog 29 1 8 := ⟨Try.t29, _, by kernel_rfl, rfl, rfl, rfl, rfl, by decide, by decide⟩
instance : SizeIs Try.prog 31 1 := ⟨by kernel_rfl⟩
instance : AggIs Try.prog 31 false := ⟨by kernel_rfl⟩
instance : ZeroIs Try.prog 31 (Value.nilFunc) := ⟨by kernel_rfl⟩
instance : BytesIs Try.prog 31 1 8 := ⟨Try.t31, _, by kernel_rfl, rfl, rfl, rfl, rfl, by decide, by decide⟩
instance : UnderIs Try.prog 32 (.int IntKind.i64) := ⟨Try.underlying32⟩
instance : SizeIs Try.prog 32 1 := ⟨by kernel_rfl⟩
instance : AggIs Try.prog 32 false := ⟨by kernel_rfl⟩
instance : ZeroIs Try.prog 32 ((Value.int IntKind.i64 0)) := ⟨by kernel_rfl⟩
instance : BytesIs Try.prog 32 1 8 := ⟨Try.t32, _, by kernel_rfl, rfl, rfl, rfl, rfl, by decide, by decide⟩
instance : SizeIs Try.prog 34 1 := ⟨by kernel_rfl⟩
instance : AggIs Try.prog 34 false := ⟨by kernel_rfl⟩
instance : ZeroIs Try.prog 34 (Value.nilFunc) := ⟨by kernel_rfl⟩
instance : BytesIs Try.prog 34 1 8 := ⟨Try.t34, _, by kernel_rfl, rfl, rfl, rfl, rfl, by decide, by decide⟩
instance : SizeIs Try.prog 36 1 := ⟨by kernel_rfl⟩
instance : AggIs Try.prog 36 false := ⟨by kernel_rfl⟩
instance : ZeroIs Try.prog 36 (Value.nilFunc) := ⟨by kernel_rfl⟩
instance : BytesIs Try.prog 36 1 8 := ⟨Try.t36, _, by kernel_rfl, rfl, rfl, rfl, rfl, by decide, by decide⟩
instance : SizeIs Try.prog 37 1 := ⟨by kernel_rfl⟩
instance : AggIs Try.prog 37 false := ⟨by kernel_rfl⟩
instance : ZeroIs Try.prog 37 (Value.nilFunc) := ⟨by kernel_rfl⟩
instance : BytesIs Try.prog 37 1 8 := ⟨Try.t37, _, by kernel_rfl, rfl, rfl, rfl, rfl, by decide, by decide⟩
instance : SizeIs Try.prog 38 1 := ⟨by kernel_rfl⟩
instance : AggIs Try.prog 38 false := ⟨by kernel_rfl⟩
instance : ZeroIs Try.prog 38 (Value.nilFunc) := ⟨by kernel_rfl⟩
instance : BytesIs Try.prog 38 1 8 := ⟨Try.t38, _, by kernel_rfl, rfl, rfl, rfl, rfl, by decide, by decide⟩
instance : SizeIs Try.prog 39 1 := ⟨by kernel_rfl⟩
instance : AggIs Try.prog 39 false := ⟨by kernel_rfl⟩
instance : ZeroIs Try.prog 39 (Value.nilFunc) := ⟨by kernel_rfl⟩
instance : BytesIs Try.prog 39 1 8 := ⟨Try.t39, _, by kernel_rfl, rfl, rfl, rfl, rfl, by decide, by decide⟩
instance : UnderIs Try.prog 40 (.slice 4) := ⟨Try.underlying40⟩
instance : SizeIs Try.prog 40 1 := ⟨by kernel_rfl⟩
instance : AggIs Try.prog 40 false := ⟨by kernel_rfl⟩
instance : ZeroIs Try.prog 40 ((Value.slice none 0 0)) := ⟨by kernel_rfl⟩
instance : BytesIs Try.prog 40 1 24 := ⟨Try.t40, _, by kernel_rfl, rfl, rfl, rfl, rfl, by decide, by decide⟩
instance : SizeIs Try.prog 41 1 := ⟨by kernel_rfl⟩
instance : AggIs Try.prog 41 false := ⟨by kernel_rfl⟩
instance : ZeroIs Try.prog 41 (Value.nilFunc) := ⟨by kernel_rfl⟩
instance : BytesIs Try.prog 41 1 8 := ⟨Try.t41, _, by kernel_rfl, rfl, rfl, rfl, rfl, by decide, by decide⟩
instance : UnderIs Try.prog 42 (.int IntKind.u64) := ⟨Try.underlying42⟩
instance : SizeIs Try.prog 42 1 := ⟨by kernel_rfl⟩
instance : AggIs Try.prog 42 false := ⟨by kernel_rfl⟩
instance : ZeroIs Try.prog 42 ((Value.int IntKind.u64 0)) := ⟨by kernel_rfl⟩
instance : BytesIs Try.prog 42 1 8 := ⟨Try.t42, _, by kernel_rfl, rfl, rfl, rfl, rfl, by decide, by decide⟩
instance : FieldIs Try.prog 43 0 0 3 1 := ⟨_, _, Try.underlying43, rfl, rfl, rfl, by kernel_rfl, by decide⟩
instance : FieldIs Try.prog 43 1 1 9 1 := ⟨_, _, Try.underlying43, rfl, rfl, rfl, by kernel_rfl, by decide⟩
instance : FieldIs Try.prog 43 2 2 25 1 := ⟨_, _, Try.underlying43, rfl, rfl, rfl, by kernel_rfl, by decide⟩
instance : FieldIs Try.prog 43 3 3 3 1 := ⟨_, _, Try.underlying43, rfl, rfl, rfl, by kernel_rfl, by decide⟩
instance : FieldIs Try.prog 43 4 4 4 1 := ⟨_, _, Try.underlying43, rfl, rfl, rfl, by kernel_rfl, by decide⟩
instance : FieldIs Try.prog 43 5 5 42 1 := ⟨_, _, Try.underlying43, rfl, rfl, rfl, by kernel_rfl, by decide⟩
instance : FieldIs Try.prog 43 6 6 42 1 := ⟨_, _, Try.underlying43, rfl, rfl, rfl, by kernel_rfl, by decide⟩
instance : StructOk Try.prog 43 := ⟨_, Try.underlying43, by kernel_rfl⟩
instance : SizeIs Try.prog 43 7 := ⟨by kernel_rfl⟩
instance : AggIs Try.prog 43 true := ⟨by kernel_rfl⟩
instance : ZeroIs Try.prog 43 ((Value.agg #[Value.int IntKind.i64 0, Value.string ByteArray.empty, Value.slice none 0 0, Value.int IntKind.i64 0, Value.bool false, Value.int IntKind.u64 0, Value.int IntKind.u64 0])) := ⟨by kernel_rfl⟩
instance : BytesIs Try.prog 43 7 80 := ⟨Try.t43, _, by kernel_rfl, rfl, rfl, rfl, rfl, by decide, by decide⟩
instance : FieldIs Try.prog 44 0 0 3 1 := ⟨_, _, Try.underlying44, rfl, rfl, rfl, by kernel_rfl, by decide⟩
instance : FieldIs Try.prog 44 1 1 9 1 := ⟨_, _, Try.underlying44, rfl, rfl, rfl, by kernel_rfl, by decide⟩
instance : FieldIs Try.prog 44 2 2 25 1 := ⟨_, _, Try.underlying44, rfl, rfl, rfl, by kernel_rfl, by decide⟩
instance : FieldIs Try.prog 44 3 3 3 1 := ⟨_, _, Try.underlying44, rfl, rfl, rfl, by kernel_rfl, by decide⟩
instance : FieldIs Try.prog 44 4 4 4 1 := ⟨_, _, Try.underlying44, rfl, rfl, rfl, by kernel_rfl, by decide⟩
instance : FieldIs Try.prog 44 5 5 42 1 := ⟨_, _, Try.underlying44, rfl, rfl, rfl, by kernel_rfl, by decide⟩
instance : FieldIs Try.prog 44 6 6 42 1 := ⟨_, _, Try.underlying44, rfl, rfl, rfl, by kernel_rfl, by decide⟩
instance : StructOk Try.prog 44 := ⟨_, Try.underlying44, by kernel_rfl⟩
instance : SizeIs Try.prog 44 7 := ⟨by kernel_rfl⟩
instance : AggIs Try.prog 44 true := ⟨by kernel_rfl⟩
instance : ZeroIs Try.prog 44 ((Value.agg #[Value.int IntKind.i64 0, Value.string ByteArray.empty, Value.slice none 0 0, Value.int IntKind.i64 0, Value.bool false, Value.int IntKind.u64 0, Value.int IntKind.u64 0])) := ⟨by kernel_rfl⟩
instance : BytesIs Try.prog 44 7 80 := ⟨Try.t44, _, by kernel_rfl, rfl, rfl, rfl, rfl, by decide, by decide⟩
instance : SizeIs Try.prog 45 1 := ⟨by kernel_rfl⟩
instance : AggIs Try.prog 45 false := ⟨by kernel_rfl⟩
instance : ZeroIs Try.prog 45 (Value.nilFunc) := ⟨by kernel_rfl⟩
instance : BytesIs Try.prog 45 1 8 := ⟨Try.t45, _, by kernel_rfl, rfl, rfl, rfl, rfl, by decide, by decide⟩
instance : SizeIs Try.prog 46 1 := ⟨by kernel_rfl⟩
instance : AggIs Try.prog 46 false := ⟨by kernel_rfl⟩
instance : ZeroIs Try.prog 46 (Value.nilFunc) := ⟨by kernel_rfl⟩
instance : BytesIs Try.prog 46 1 8 := ⟨Try.t46, _, by kernel_rfl, rfl, rfl, rfl, rfl, by decide, by decide⟩
instance : SizeIs Try.prog 47 1 := ⟨by kernel_rfl⟩
instance : AggIs Try.prog 47 false := ⟨by kernel_rfl⟩
instance : ZeroIs Try.prog 47 (Value.nilFunc) := ⟨by kernel_rfl⟩
instance : BytesIs Try.prog 47 1 8 := ⟨Try.t47, _, by kernel_rfl, rfl, rfl, rfl, rfl, by decide, by decide⟩
instance : SizeIs Try.prog 48 1 := ⟨by kernel_rfl⟩
instance : AggIs Try.prog 48 false := ⟨by kernel_rfl⟩
instance : ZeroIs Try.prog 48 (Value.nilFunc) := ⟨by kernel_rfl⟩
instance : BytesIs Try.prog 48 1 8 := ⟨Try.t48, _, by kernel_rfl, rfl, rfl, rfl, rfl, by decide, by decide⟩
instance : SizeIs Try.prog 50 1 := ⟨by kernel_rfl⟩
instance : AggIs Try.prog 50 false := ⟨by kernel_rfl⟩
instance : ZeroIs Try.prog 50 (Value.nilFunc) := ⟨by kernel_rfl⟩
instance : BytesIs Try.prog 50 1 8 := ⟨Try.t50, _, by kernel_rfl, rfl, rfl, rfl, rfl, by decide, by decide⟩
instance : UnderIs Try.prog 51 (.slice 42) := ⟨Try.underlying51⟩
instance : SizeIs Try.prog 51 1 := ⟨by kernel_rfl⟩
instance : AggIs Try.prog 51 false := ⟨by kernel_rfl⟩
instance : ZeroIs Try.prog 51 ((Value.slice none 0 0)) := ⟨by kernel_rfl⟩
instance : BytesIs Try.prog 51 1 24 := ⟨Try.t51, _, by kernel_rfl, rfl, rfl, rfl, rfl, by decide, by decide⟩
instance : FieldIs Try.prog 52 0 0 3 1 := ⟨_, _, Try.underlying52, rfl, rfl, rfl, by kernel_rfl, by decide⟩
instance : FieldIs Try.prog 52 1 1 51 1 := ⟨_, _, Try.underlying52, rfl, rfl, rfl, by kernel_rfl, by decide⟩
instance : StructOk Try.prog 52 := ⟨_, Try.underlying52, by kernel_rfl⟩
instance : SizeIs Try.prog 52 2 := ⟨by kernel_rfl⟩
instance : AggIs Try.prog 52 true := ⟨by kernel_rfl⟩
instance : ZeroIs Try.prog 52 ((Value.agg #[Value.int IntKind.i64 0, Value.slice none 0 0])) := ⟨by kernel_rfl⟩
instance : BytesIs Try.prog 52 2 32 := ⟨Try.t52, _, by kernel_rfl, rfl, rfl, rfl, rfl, by decide, by decide⟩
instance : FieldIs Try.prog 53 0 0 3 1 := ⟨_, _, Try.underlying53, rfl, rfl, rfl, by kernel_rfl, by decide⟩
instance : FieldIs Try.prog 53 1 1 51 1 := ⟨_, _, Try.underlying53, rfl, rfl, rfl, by kernel_rfl, by decide⟩
instance : StructOk Try.prog 53 := ⟨_, Try.underlying53, by kernel_rfl⟩
instance : SizeIs Try.prog 53 2 := ⟨by kernel_rfl⟩
instance : AggIs Try.prog 53 true := ⟨by kernel_rfl⟩
instance : ZeroIs Try.prog 53 ((Value.agg #[Value.int IntKind.i64 0, Value.slice none 0 0])) := ⟨by kernel_rfl⟩
instance : BytesIs Try.prog 53 2 32 := ⟨Try.t53, _, by kernel_rfl, rfl, rfl, rfl, rfl, by decide, by decide⟩
instance : SizeIs Try.prog 55 1 := ⟨by kernel_rfl⟩
instance : AggIs Try.prog 55 false := ⟨by kernel_rfl⟩
instance : ZeroIs Try.prog 55 (Value.nilFunc) := ⟨by kernel_rfl⟩
instance : BytesIs Try.prog 55 1 8 := ⟨Try.t55, _, by kernel_rfl, rfl, rfl, rfl, rfl, by decide, by decide⟩
instance : SizeIs Try.prog 57 1 := ⟨by kernel_rfl⟩
instance : AggIs Try.prog 57 false := ⟨by kernel_rfl⟩
instance : ZeroIs Try.prog 57 (Value.nilFunc) := ⟨by kernel_rfl⟩
instance : BytesIs Try.prog 57 1 8 := ⟨Try.t57, _, by kernel_rfl, rfl, rfl, rfl, rfl, by decide, by decide⟩
instance : SizeIs Try.prog 58 1 := ⟨by kernel_rfl⟩
instance : AggIs Try.prog 58 false := ⟨by kernel_rfl⟩
instance : ZeroIs Try.prog 58 (Value.nilFunc) := ⟨by kernel_rfl⟩
instance : BytesIs Try.prog 58 1 8 := ⟨Try.t58, _, by kernel_rfl, rfl, rfl, rfl, rfl, by decide, by decide⟩
instance : SizeIs Try.prog 59 1 := ⟨by kernel_rfl⟩
instance : AggIs Try.prog 59 false := ⟨by kernel_rfl⟩
instance : ZeroIs Try.prog 59 (Value.nilFunc) := ⟨by kernel_rfl⟩
instance : BytesIs Try.prog 59 1 8 := ⟨Try.t59, _, by kernel_rfl, rfl, rfl, rfl, rfl, by decide, by decide⟩
instance : SizeIs Try.prog 60 1 := ⟨by kernel_rfl⟩
instance : AggIs Try.prog 60 false := ⟨by kernel_rfl⟩
instance : ZeroIs Try.prog 60 (Value.nilFunc) := ⟨by kernel_rfl⟩
instance : BytesIs Try.prog 60 1 8 := ⟨Try.t60, _, by kernel_rfl, rfl, rfl, rfl, rfl, by decide, by decide⟩
instance : SizeIs Try.prog 61 1 := ⟨by kernel_rfl⟩
instance : AggIs Try.prog 61 false := ⟨by kernel_rfl⟩
instance : ZeroIs Try.prog 61 (Value.nilFunc) := ⟨by kernel_rfl⟩
instance : BytesIs Try.prog 61 1 8 := ⟨Try.t61, _, by kernel_rfl, rfl, rfl, rfl, rfl, by decide, by decide⟩
instance : SizeIs Try.prog 62 1 := ⟨by kernel_rfl⟩
instance : AggIs Try.prog 62 false := ⟨by kernel_rfl⟩
instance : ZeroIs Try.prog 62 (Value.nilFunc) := ⟨by kernel_rfl⟩
instance : BytesIs Try.prog 62 1 8 := ⟨Try.t62, _, by kernel_rfl, rfl, rfl, rfl, rfl, by decide, by decide⟩
instance : SizeIs Try.prog 63 1 := ⟨by kernel_rfl⟩
instance : AggIs Try.prog 63 false := ⟨by kernel_rfl⟩
instance : ZeroIs Try.prog 63 (Value.nilFunc) := ⟨by kernel_rfl⟩
instance : BytesIs Try.prog 63 1 8 := ⟨Try.t63, _, by kernel_rfl, rfl, rfl, rfl, rfl, by decide, by decide⟩
instance : SizeIs Try.prog 64 1 := ⟨by kernel_rfl⟩
instance : AggIs Try.prog 64 false := ⟨by kernel_rfl⟩
instance : ZeroIs Try.prog 64 (Value.nilFunc) := ⟨by kernel_rfl⟩
instance : BytesIs Try.prog 64 1 8 := ⟨Try.t64, _, by kernel_rfl, rfl, rfl, rfl, rfl, by decide, by decide⟩
instance : SizeIs Try.prog 65 1 := ⟨by kernel_rfl⟩
instance : AggIs Try.prog 65 false := ⟨by kernel_rfl⟩
instance : ZeroIs Try.prog 65 (Value.nilFunc) := ⟨by kernel_rfl⟩
instance : BytesIs Try.prog 65 1 8 := ⟨Try.t65, _, by kernel_rfl, rfl, rfl, rfl, rfl, by decide, by decide⟩
instance : SizeIs Try.prog 66 1 := ⟨by kernel_rfl⟩
instance : AggIs Try.prog 66 false := ⟨by kernel_rfl⟩
instance : ZeroIs Try.prog 66 (Value.nilFunc) := ⟨by kernel_rfl⟩
instance : BytesIs Try.prog 66 1 8 := ⟨Try.t66, _, by kernel_rfl, rfl, rfl, rfl, rfl, by decide, by decide⟩
instance : SizeIs Try.prog 67 1 := ⟨by kernel_rfl⟩
instance : AggIs Try.prog 67 false := ⟨by kernel_rfl⟩
instance : ZeroIs Try.prog 67 (Value.nilFunc) := ⟨by kernel_rfl⟩
instance : BytesIs Try.prog 67 1 8 := ⟨Try.t67, _, by kernel_rfl, rfl, rfl, rfl, rfl, by decide, by decide⟩
instance : SizeIs Try.prog 68 1 := ⟨by kernel_rfl⟩
instance : AggIs Try.prog 68 false := ⟨by kernel_rfl⟩
instance : ZeroIs Try.prog 68 (Value.nilFunc) := ⟨by kernel_rfl⟩
instance : BytesIs Try.prog 68 1 8 := ⟨Try.t68, _, by kernel_rfl, rfl, rfl, rfl, rfl, by decide, by decide⟩
instance : SizeIs Try.prog 70 1 := ⟨by kernel_rfl⟩
instance : AggIs Try.prog 70 false := ⟨by kernel_rfl⟩
instance : ZeroIs Try.prog 70 (Value.nilFunc) := ⟨by kernel_rfl⟩
instance : BytesIs Try.prog 70 1 8 := ⟨Try.t70, _, by kernel_rfl, rfl, rfl, rfl, rfl, by decide, by decide⟩
instance : UnderIs Try.prog 71 (.slice 82) := ⟨Try.underlying71⟩
instance : SizeIs Try.prog 71 1 := ⟨by kernel_rfl⟩
instance : AggIs Try.prog 71 false := ⟨by kernel_rfl⟩
instance : ZeroIs Try.prog 71 ((Value.slice none 0 0)) := ⟨by kernel_rfl⟩
instance : BytesIs Try.prog 71 1 24 := ⟨Try.t71, _, by kernel_rfl, rfl, rfl, rfl, rfl, by decide, by decide⟩
instance : FieldIs Try.prog 72 0 0 3 1 := ⟨_, _, Try.underlying72, rfl, rfl, rfl, by kernel_rfl, by decide⟩
instance : FieldIs Try.prog 72 1 1 71 1 := ⟨_, _, Try.underlying72, rfl, rfl, rfl, by kernel_rfl, by decide⟩
instance : StructOk Try.prog 72 := ⟨_, Try.underlying72, by kernel_rfl⟩
instance : SizeIs Try.prog 72 2 := ⟨by kernel_rfl⟩
instance : AggIs Try.prog 72 true := ⟨by kernel_rfl⟩
instance : ZeroIs Try.prog 72 ((Value.agg #[Value.int IntKind.i64 0, Value.slice none 0 0])) := ⟨by kernel_rfl⟩
instance : BytesIs Try.prog 72 2 32 := ⟨Try.t72, _, by kernel_rfl, rfl, rfl, rfl, rfl, by decide, by decide⟩
instance : FieldIs Try.prog 73 0 0 3 1 := ⟨_, _, Try.underlying73, rfl, rfl, rfl, by kernel_rfl, by decide⟩
instance : FieldIs Try.prog 73 1 1 71 1 := ⟨_, _, Try.underlying73, rfl, rfl, rfl, by kernel_rfl, by decide⟩
instance : StructOk Try.prog 73 := ⟨_, Try.underlying73, by kernel_rfl⟩
instance : SizeIs Try.prog 73 2 := ⟨by kernel_rfl⟩
instance : AggIs Try.prog 73 true := ⟨by kernel_rfl⟩
instance : ZeroIs Try.prog 73 ((Value.agg #[Value.int IntKind.i64 0, Value.slice none 0 0])) := ⟨by kernel_rfl⟩
instance : BytesIs Try.prog 73 2 32 := ⟨Try.t73, _, by kernel_rfl, rfl, rfl, rfl, rfl, by decide, by decide⟩
instance : SizeIs Try.prog 75 1 := ⟨by kernel_rfl⟩
instance : AggIs Try.prog 75 false := ⟨by kernel_rfl⟩
instance : ZeroIs Try.prog 75 (Value.nilFunc) := ⟨by kernel_rfl⟩
instance : BytesIs Try.prog 75 1 8 := ⟨Try.t75, _, by kernel_rfl, rfl, rfl, rfl, rfl, by decide, by decide⟩
instance : SizeIs Try.prog 77 1 := ⟨by kernel_rfl⟩
instance : AggIs Try.prog 77 false := ⟨by kernel_rfl⟩
instance : ZeroIs Try.prog 77 (Value.nilFunc) := ⟨by kernel_rfl⟩
instance : BytesIs Try.prog 77 1 8 := ⟨Try.t77, _, by kernel_rfl, rfl, rfl, rfl, rfl, by decide, by decide⟩
instance : SizeIs Try.prog 78 1 := ⟨by kernel_rfl⟩
instance : AggIs Try.prog 78 false := ⟨by kernel_rfl⟩
instance : ZeroIs Try.prog 78 (Value.nilFunc) := ⟨by kernel_rfl⟩
instance : BytesIs Try.prog 78 1 8 := ⟨Try.t78, _, by kernel_rfl, rfl, rfl, rfl, rfl, by decide, by decide⟩
instance : SizeIs Try.prog 79 1 := ⟨by kernel_rfl⟩
instance : AggIs Try.prog 79 false := ⟨by kernel_rfl⟩
instance : ZeroIs Try.prog 79 (Value.nilFunc) := ⟨by kernel_rfl⟩
instance : BytesIs Try.prog 79 1 8 := ⟨Try.t79, _, by kernel_rfl, rfl, rfl, rfl, rfl, by decide, by decide⟩
instance : UnderIs Try.prog 80 (.slice 93) := ⟨Try.underlying80⟩
instance : SizeIs Try.prog 80 1 := ⟨by kernel_rfl⟩
instance : AggIs Try.prog 80 false := ⟨by kernel_rfl⟩
instance : ZeroIs Try.prog 80 ((Value.slice none 0 0)) := ⟨by kernel_rfl⟩
instance : BytesIs Try.prog 80 1 24 := ⟨Try.t80, _, by kernel_rfl, rfl, rfl, rfl, rfl, by decide, by decide⟩
instance : FieldIs Try.prog 81 0 0 3 1 := ⟨_, _, Try.underlying81, rfl, rfl, rfl, by kernel_rfl, by decide⟩
instance : FieldIs Try.prog 81 1 1 42 1 := ⟨_, _, Try.underlying81, rfl, rfl, rfl, by kernel_rfl, by decide⟩
instance : FieldIs Try.prog 81 2 2 42 1 := ⟨_, _, Try.underlying81, rfl, rfl, rfl, by kernel_rfl, by decide⟩
instance : FieldIs Try.prog 81 3 3 3 1 := ⟨_, _, Try.underlying81, rfl, rfl, rfl, by kernel_rfl, by decide⟩
instance : StructOk Try.prog 81 := ⟨_, Try.underlying81, by kernel_rfl⟩
instance : SizeIs Try.prog 81 4 := ⟨by kernel_rfl⟩
instance : AggIs Try.prog 81 true := ⟨by kernel_rfl⟩
instance : ZeroIs Try.prog 81 ((Value.agg #[Value.int IntKind.i64 0, Value.int IntKind.u64 0, Value.int IntKind.u64 0, Value.int IntKind.i64 0])) := ⟨by kernel_rfl⟩
instance : BytesIs Try.prog 81 4 32 := ⟨Try.t81, _, by kernel_rfl, rfl, rfl, rfl, rfl, by decide, by decide⟩
instance : FieldIs Try.prog 82 0 0 3 1 := ⟨_, _, Try.underlying82, rfl, rfl, rfl, by kernel_rfl, by decide⟩
instance : FieldIs Try.prog 82 1 1 42 1 := ⟨_, _, Try.underlying82, rfl, rfl, rfl, by kernel_rfl, by decide⟩
instance : FieldIs Try.prog 82 2 2 42 1 := ⟨_, _, Try.underlying82, rfl, rfl, rfl, by kernel_rfl, by decide⟩
instance : FieldIs Try.prog 82 3 3 3 1 := ⟨_, _, Try.underlying82, rfl, rfl, rfl, by kernel_rfl, by decide⟩
instance : StructOk Try.prog 82 := ⟨_, Try.underlying82, by kernel_rfl⟩
instance : SizeIs Try.prog 82 4 := ⟨by kernel_rfl⟩
instance : AggIs Try.prog 82 true := ⟨by kernel_rfl⟩
instance : ZeroIs Try.prog 82 ((Value.agg #[Value.int IntKind.i64 0, Value.int IntKind.u64 0, Value.int IntKind.u64 0, Value.int IntKind.i64 0])) := ⟨by kernel_rfl⟩
instance : BytesIs Try.prog 82 4 32 := ⟨Try.t82, _, by kernel_rfl, rfl, rfl, rfl, rfl, by decide, by decide⟩
instance : SizeIs Try.prog 84 1 := ⟨by kernel_rfl⟩
instance : AggIs Try.prog 84 false := ⟨by kernel_rfl⟩
instance : ZeroIs Try.prog 84 (Value.nilFunc) := ⟨by kernel_rfl⟩
instance : BytesIs Try.prog 84 1 8 := ⟨Try.t84, _, by kernel_rfl, rfl, rfl, rfl, rfl, by decide, by decide⟩
instance : SizeIs Try.prog 86 1 := ⟨by kernel_rfl⟩
instance : AggIs Try.prog 86 false := ⟨by kernel_rfl⟩
instance : ZeroIs Try.prog 86 (Value.nilFunc) := ⟨by kernel_rfl⟩
instance : BytesIs Try.prog 86 1 8 := ⟨Try.t86, _, by kernel_rfl, rfl, rfl, rfl, rfl, by decide, by decide⟩
instance : SizeIs Try.prog 87 1 := ⟨by kernel_rfl⟩
instance : AggIs Try.prog 87 false := ⟨by kernel_rfl⟩
instance : ZeroIs Try.prog 87 (Value.nilFunc) := ⟨by kernel_rfl⟩
instance : BytesIs Try.prog 87 1 8 := ⟨Try.t87, _, by kernel_rfl, rfl, rfl, rfl, rfl, by decide, by decide⟩
instance : SizeIs Try.prog 89 1 := ⟨by kernel_rfl⟩
instance : AggIs Try.prog 89 false := ⟨by kernel_rfl⟩
instance : ZeroIs Try.prog 89 (Value.nilFunc) := ⟨by kernel_rfl⟩
instance : BytesIs Try.prog 89 1 8 := ⟨Try.t89, _, by kernel_rfl, rfl, rfl, rfl, rfl, by decide, by decide⟩
instance : SizeIs Try.prog 91 1 := ⟨by kernel_rfl⟩
instance : AggIs Try.prog 91 false := ⟨by kernel_rfl⟩
instance : ZeroIs Try.prog 91 (Value.nilFunc) := ⟨by kernel_rfl⟩
instance : BytesIs Try.prog 91 1 8 := ⟨Try.t91, _, by kernel_rfl, rfl, rfl, rfl, rfl, by decide, by decide⟩
instance : FieldIs Try.prog 92 0 0 3 1 := ⟨_, _, Try.underlying92, rfl, rfl, rfl, by kernel_rfl, by decide⟩
instance : FieldIs Try.prog 92 1 1 3 1 := ⟨_, _, Try.underlying92, rfl, rfl, rfl, by kernel_rfl, by decide⟩
instance : FieldIs Try.prog 92 2 2 5 1 := ⟨_, _, Try.underlying92, rfl, rfl, rfl, by kernel_rfl, by decide⟩
instance : StructOk Try.prog 92 := ⟨_, Try.underlying92, by kernel_rfl⟩
instance : SizeIs Try.prog 92 3 := ⟨by kernel_rfl⟩
instance : AggIs Try.prog 92 true := ⟨by kernel_rfl⟩
instance : ZeroIs Try.prog 92 ((Value.agg #[Value.int IntKind.i64 0, Value.int IntKind.i64 0, Value.int IntKind.u8 0])) := ⟨by kernel_rfl⟩
instance : BytesIs Try.prog 92 3 24 := ⟨Try.t92, _, by kernel_rfl, rfl, rfl, rfl, rfl, by decide, by decide⟩
instance : FieldIs Try.prog 93 0 0 3 1 := ⟨_, _, Try.underlying93, rfl, rfl, rfl, by kernel_rfl, by decide⟩
instance : FieldIs Try.prog 93 1 1 3 1 := ⟨_, _, Try.underlying93, rfl, rfl, rfl, by kernel_rfl, by decide⟩
instance : FieldIs Try.prog 93 2 2 5 1 := ⟨_, _, Try.underlying93, rfl, rfl, rfl, by kernel_rfl, by decide⟩
instance : StructOk Try.prog 93 := ⟨_, Try.underlying93, by kernel_rfl⟩
instance : SizeIs Try.prog 93 3 := ⟨by kernel_rfl⟩
instance : AggIs Try.prog 93 true := ⟨by kernel_rfl⟩
instance : ZeroIs Try.prog 93 ((Value.agg #[Value.int IntKind.i64 0, Value.int IntKind.i64 0, Value.int IntKind.u8 0])) := ⟨by kernel_rfl⟩
instance : BytesIs Try.prog 93 3 24 := ⟨Try.t93, _, by kernel_rfl, rfl, rfl, rfl, rfl, by decide, by decide⟩
instance : SizeIs Try.prog 94 1 := ⟨by kernel_rfl⟩
instance : AggIs Try.prog 94 false := ⟨by kernel_rfl⟩
instance : ZeroIs Try.prog 94 (Value.nilFunc) := ⟨by kernel_rfl⟩
instance : BytesIs Try.prog 94 1 8 := ⟨Try.t94, _, by kernel_rfl, rfl, rfl, rfl, rfl, by decide, by decide⟩
instance : SizeIs Try.prog 95 1 := ⟨by kernel_rfl⟩
instance : AggIs Try.prog 95 false := ⟨by kernel_rfl⟩
instance : ZeroIs Try.prog 95 (Value.nilFunc) := ⟨by kernel_rfl⟩
instance : BytesIs Try.prog 95 1 8 := ⟨Try.t95, _, by kernel_rfl, rfl, rfl, rfl, rfl, by decide, by decide⟩
instance : SizeIs Try.prog 96 1 := ⟨by kernel_rfl⟩
instance : AggIs Try.prog 96 false := ⟨by kernel_rfl⟩
instance : ZeroIs Try.prog 96 (Value.nilFunc) := ⟨by kernel_rfl⟩
instance : BytesIs Try.prog 96 1 8 := ⟨Try.t96, _, by kernel_rfl, rfl, rfl, rfl, rfl, by decide, by decide⟩
instance : SizeIs Try.prog 97 1 := ⟨by kernel_rfl⟩
instance : AggIs Try.prog 97 false := ⟨by kernel_rfl⟩
instance : ZeroIs Try.prog 97 (Value.nilFunc) := ⟨by kernel_rfl⟩
instance : BytesIs Try.prog 97 1 8 := ⟨Try.t97, _, by kernel_rfl, rfl, rfl, rfl, rfl, by decide, by decide⟩
instance : SizeIs Try.prog 98 1 := ⟨by kernel_rfl⟩
instance : AggIs Try.prog 98 false := ⟨by kernel_rfl⟩
instance : ZeroIs Try.prog 98 (Value.nilFunc) := ⟨by kernel_rfl⟩
instance : BytesIs Try.prog 98 1 8 := ⟨Try.t98, _, by kernel_rfl, rfl, rfl, rfl, rfl, by decide, by decide⟩
instance : SizeIs Try.prog 99 1 := ⟨by kernel_rfl⟩
instance : AggIs Try.prog 99 false := ⟨by kernel_rfl⟩
instance : ZeroIs Try.prog 99 (Value.nilFunc) := ⟨by kernel_rfl⟩
instance : BytesIs Try.prog 99 1 8 := ⟨Try.t99, _, by kernel_rfl, rfl, rfl, rfl, rfl, by decide, by decide⟩
instance : SizeIs Try.prog 100 1 := ⟨by kernel_rfl⟩
instance : AggIs Try.prog 100 false := ⟨by kernel_rfl⟩
instance : ZeroIs Try.prog 100 (Value.nilFunc) := ⟨by kernel_rfl⟩
instance : BytesIs Try.prog 100 1 8 := ⟨Try.t100, _, by kernel_rfl, rfl, rfl, rfl, rfl, by decide, by decide⟩
instance : SizeIs Try.prog 101 1 := ⟨by kernel_rfl⟩
instance : AggIs Try.prog 101 false := ⟨by kernel_rfl⟩
instance : ZeroIs Try.prog 101 (Value.nilFunc) := ⟨by kernel_rfl⟩
instance : BytesIs Try.prog 101 1 8 := ⟨Try.t101, _, by kernel_rfl, rfl, rfl, rfl, rfl, by decide, by decide⟩
instance : SizeIs Try.prog 102 1 := ⟨by kernel_rfl⟩
instance : AggIs Try.prog 102 false := ⟨by kernel_rfl⟩
instance : ZeroIs Try.prog 102 (Value.nilFunc) := ⟨by kernel_rfl⟩
instance : BytesIs Try.prog 102 1 8 := ⟨Try.t102, _, by kernel_rfl, rfl, rfl, rfl, rfl, by decide, by decide⟩
instance : SizeIs Try.prog 104 1 := ⟨by kernel_rfl⟩
instance : AggIs Try.prog 104 false := ⟨by kernel_rfl⟩
instance : ZeroIs Try.prog 104 (Value.nilFunc) := ⟨by kernel_rfl⟩
instance : BytesIs Try.prog 104 1 8 := ⟨Try.t104, _, by kernel_rfl, rfl, rfl, rfl, rfl, by decide, by decide⟩
instance : SizeIs Try.prog 106 1 := ⟨by kernel_rfl⟩
instance : AggIs Try.prog 106 false := ⟨by kernel_rfl⟩
instance : ZeroIs Try.prog 106 (Value.nilFunc) := ⟨by kernel_rfl⟩
instance : BytesIs Try.prog 106 1 8 := ⟨Try.t106, _, by kernel_rfl, rfl, rfl, rfl, rfl, by decide, by decide⟩
instance : SizeIs Try.prog 107 1 := ⟨by kernel_rfl⟩
instance : AggIs Try.prog 107 false := ⟨by kernel_rfl⟩
instance : ZeroIs Try.prog 107 (Value.nilFunc) := ⟨by kernel_rfl⟩
instance : BytesIs Try.prog 107 1 8 := ⟨Try.t107, _, by kernel_rfl, rfl, rfl, rfl, rfl, by decide, by decide⟩
instance : SizeIs Try.prog 108 1 := ⟨by kernel_rfl⟩
instance : AggIs Try.prog 108 false := ⟨by kernel_rfl⟩
instance : ZeroIs Try.prog 108 (Value.nilFunc) := ⟨by kernel_rfl⟩
instance : BytesIs Try.prog 108 1 8 := ⟨Try.t108, _, by kernel_rfl, rfl, rfl, rfl, rfl, by decide, by decide⟩
instance : SizeIs Try.prog 109 1 := ⟨by kernel_rfl⟩
instance : AggIs Try.prog 109 false := ⟨by kernel_rfl⟩
instance : ZeroIs Try.prog 109 (Value.nilFunc) := ⟨by kernel_rfl⟩
instance : BytesIs Try.prog 109 1 8 := ⟨Try.t109, _, by kernel_rfl, rfl, rfl, rfl, rfl, by decide, by decide⟩
instance : SizeIs Try.prog 110 1 := ⟨by kernel_rfl⟩
instance : AggIs Try.prog 110 false := ⟨by kernel_rfl⟩
instance : ZeroIs Try.prog 110 (Value.nilFunc) := ⟨by kernel_rfl⟩
instance : BytesIs Try.prog 110 1 8 := ⟨Try.t110, _, by kernel_rfl, rfl, rfl, rfl, rfl, by decide, by decide⟩
instance : SizeIs Try.prog 112 1 := ⟨by kernel_rfl⟩
instance : AggIs Try.prog 112 false := ⟨by kernel_rfl⟩
instance : ZeroIs Try.prog 112 (Value.nilFunc) := ⟨by kernel_rfl⟩
instance : BytesIs Try.prog 112 1 8 := ⟨Try.t112, _, by kernel_rfl, rfl, rfl, rfl, rfl, by decide, by decide⟩
instance : UnderIs Try.prog 113 (.slice 24) := ⟨Try.underlying113⟩
instance : SizeIs Try.prog 113 1 := ⟨by kernel_rfl⟩
instance : AggIs Try.prog 113 false := ⟨by kernel_rfl⟩
instance : ZeroIs Try.prog 113 ((Value.slice none 0 0)) := ⟨by kernel_rfl⟩
instance : BytesIs Try.prog 113 1 24 := ⟨Try.t113, _, by kernel_rfl, rfl, rfl, rfl, rfl, by decide, by decide⟩
instance : SizeIs Try.prog 114 1 := ⟨by kernel_rfl⟩
instance : AggIs Try.prog 114 false := ⟨by kernel_rfl⟩
instance : ZeroIs Try.prog 114 (Value.nilFunc) := ⟨by kernel_rfl⟩
instance : BytesIs Try.prog 114 1 8 := ⟨Try.t114, _, by kernel_rfl, rfl, rfl, rfl, rfl, by decide, by decide⟩
instance : SizeIs Try.prog 115 1 := ⟨by kernel_rfl⟩
instance : AggIs Try.prog 115 false := ⟨by kernel_rfl⟩
instance : ZeroIs Try.prog 115 (Value.nilFunc) := ⟨by kernel_rfl⟩
instance : BytesIs Try.prog 115 1 8 := ⟨Try.t115, _, by kernel_rfl, rfl, rfl, rfl, rfl, by decide, by decide⟩
instance : SizeIs Try.prog 117 1 := ⟨by kernel_rfl⟩
instance : AggIs Try.prog 117 false := ⟨by kernel_rfl⟩
instance : ZeroIs Try.prog 117 (Value.nilFunc) := ⟨by kernel_rfl⟩
instance : BytesIs Try.prog 117 1 8 := ⟨Try.t117, _, by kernel_rfl, rfl, rfl, rfl, rfl, by decide, by decide⟩
instance : SizeIs Try.prog 118 1 := ⟨by kernel_rfl⟩
instance : AggIs Try.prog 118 false := ⟨by kernel_rfl⟩
instance : ZeroIs Try.prog 118 (Value.nilFunc) := ⟨by kernel_rfl⟩
instance : BytesIs Try.prog 118 1 8 := ⟨Try.t118, _, by kernel_rfl, rfl, rfl, rfl, rfl, by decide, by decide⟩
instance : SizeIs Try.prog 119 1 := ⟨by kernel_rfl⟩
instance : AggIs Try.prog 119 false := ⟨by kernel_rfl⟩
instance : ZeroIs Try.prog 119 (Value.nilFunc) := ⟨by kernel_rfl⟩
instance : BytesIs Try.prog 119 1 8 := ⟨Try.t119, _, by kernel_rfl, rfl, rfl, rfl, rfl, by decide, by decide⟩
instance : UnderIs Try.prog 120 (.slice 127) := ⟨Try.underlying120⟩
instance : SizeIs Try.prog 120 1 := ⟨by kernel_rfl⟩
instance : AggIs Try.prog 120 false := ⟨by kernel_rfl⟩
instance : ZeroIs Try.prog 120 ((Value.slice none 0 0)) := ⟨by kernel_rfl⟩
instance : BytesIs Try.prog 120 1 24 := ⟨Try.t120, _, by kernel_rfl, rfl, rfl, rfl, rfl, by decide, by decide⟩
instance : SizeIs Try.prog 122 1 := ⟨by kernel_rfl⟩
instance : AggIs Try.prog 122 false := ⟨by kernel_rfl⟩
instance : ZeroIs Try.prog 122 (Value.nilFunc) := ⟨by kernel_rfl⟩
instance : BytesIs Try.prog 122 1 8 := ⟨Try.t122, _, by kernel_rfl, rfl, rfl, rfl, rfl, by decide, by decide⟩
instance : SizeIs Try.prog 123 1 := ⟨by kernel_rfl⟩
instance : AggIs Try.prog 123 false := ⟨by kernel_rfl⟩
instance : ZeroIs Try.prog 123 (Value.nilFunc) := ⟨by kernel_rfl⟩
instance : BytesIs Try.prog 123 1 8 := ⟨Try.t123, _, by kernel_rfl, rfl, rfl, rfl, rfl, by decide, by decide⟩
instance : SizeIs Try.prog 124 1 := ⟨by kernel_rfl⟩
instance : AggIs Try.prog 124 false := ⟨by kernel_rfl⟩
instance : ZeroIs Try.prog 124 (Value.nilFunc) := ⟨by kernel_rfl⟩
instance : BytesIs Try.prog 124 1 8 := ⟨Try.t124, _, by kernel_rfl, rfl, rfl, rfl, rfl, by decide, by decide⟩
instance : SizeIs Try.prog 125 1 := ⟨by kernel_rfl⟩
instance : AggIs Try.prog 125 false := ⟨by kernel_rfl⟩
instance : ZeroIs Try.prog 125 (Value.nilFunc) := ⟨by kernel_rfl⟩
instance : BytesIs Try.prog 125 1 8 := ⟨Try.t125, _, by kernel_rfl, rfl, rfl, rfl, rfl, by decide, by decide⟩
instance : FieldIs Try.prog 126 0 0 3 1 := ⟨_, _, Try.underlying126, rfl, rfl, rfl, by kernel_rfl, by decide⟩
instance : FieldIs Try.prog 126 1 1 3 1 := ⟨_, _, Try.underlying126, rfl, rfl, rfl, by kernel_rfl, by decide⟩
instance : StructOk Try.prog 126 := ⟨_, Try.underlying126, by kernel_rfl⟩
instance : SizeIs Try.prog 126 2 := ⟨by kernel_rfl⟩
instance : AggIs Try.prog 126 true := ⟨by kernel_rfl⟩
instance : ZeroIs Try.prog 126 ((Value.agg #[Value.int IntKind.i64 0, Value.int IntKind.i64 0])) := ⟨by kernel_rfl⟩
instance : BytesIs Try.prog 126 2 16 := ⟨Try.t126, _, by kernel_rfl, rfl, rfl, rfl, rfl, by decide, by decide⟩
instance : FieldIs Try.prog 127 0 0 3 1 := ⟨_, _, Try.underlying127, rfl, rfl, rfl, by kernel_rfl, by decide⟩
instance : FieldIs Try.prog 127 1 1 3 1 := ⟨_, _, Try.underlying127, rfl, rfl, rfl, by kernel_rfl, by decide⟩
instance : StructOk Try.prog 127 := ⟨_, Try.underlying127, by kernel_rfl⟩
instance : SizeIs Try.prog 127 2 := ⟨by kernel_rfl⟩
instance : AggIs Try.prog 127 true := ⟨by kernel_rfl⟩
instance : ZeroIs Try.prog 127 ((Value.agg #[Value.int IntKind.i64 0, Value.int IntKind.i64 0])) := ⟨by kernel_rfl⟩
instance : BytesIs Try.prog 127 2 16 := ⟨Try.t127, _, by kernel_rfl, rfl, rfl, rfl, rfl, by decide, by decide⟩
instance : SizeIs Try.prog 128 1 := ⟨by kernel_rfl⟩
instance : AggIs Try.prog 128 false := ⟨by kernel_rfl⟩
instance : ZeroIs Try.prog 128 (Value.nilFunc) := ⟨by kernel_rfl⟩
instance : BytesIs Try.prog 128 1 8 := ⟨Try.t128, _, by kernel_rfl, rfl, rfl, rfl, rfl, by decide, by decide⟩
instance : SizeIs Try.prog 129 1 := ⟨by kernel_rfl⟩
instance : AggIs Try.prog 129 false := ⟨by kernel_rfl⟩
instance : ZeroIs Try.prog 129 (Value.nilFunc) := ⟨by kernel_rfl⟩
instance : BytesIs Try.prog 129 1 8 := ⟨Try.t129, _, by kernel_rfl, rfl, rfl, rfl, rfl, by decide, by decide⟩
instance : SizeIs Try.prog 130 1 := ⟨by kernel_rfl⟩
instance : AggIs Try.prog 130 false := ⟨by kernel_rfl⟩
instance : ZeroIs Try.prog 130 (Value.nilFunc) := ⟨by kernel_rfl⟩
instance : BytesIs Try.prog 130 1 8 := ⟨Try.t130, _, by kernel_rfl, rfl, rfl, rfl, rfl, by decide, by decide⟩
instance : SizeIs Try.prog 131 1 := ⟨by kernel_rfl⟩
instance : AggIs Try.prog 131 false := ⟨by kernel_rfl⟩
instance : ZeroIs Try.prog 131 (Value.nilFunc) := ⟨by kernel_rfl⟩
instance : BytesIs Try.prog 131 1 8 := ⟨Try.t131, _, by kernel_rfl, rfl, rfl, rfl, rfl, by decide, by decide⟩
instance : SizeIs Try.prog 132 1 := ⟨by kernel_rfl⟩
instance : AggIs Try.prog 132 false := ⟨by kernel_rfl⟩
instance : ZeroIs Try.prog 132 (Value.nilFunc) := ⟨by kernel_rfl⟩
instance : BytesIs Try.prog 132 1 8 := ⟨Try.t132, _, by kernel_rfl, rfl, rfl, rfl, rfl, by decide, by decide⟩
instance : SizeIs Try.prog 133 1 := ⟨by kernel_rfl⟩
instance : AggIs Try.prog 133 false := ⟨by kernel_rfl⟩
instance : ZeroIs Try.prog 133 (Value.nilFunc) := ⟨by kernel_rfl⟩
instance : BytesIs Try.prog 133 1 8 := ⟨Try.t133, _, by kernel_rfl, rfl, rfl, rfl, rfl, by decide, by decide⟩
instance : SizeIs Try.prog 134 1 := ⟨by kernel_rfl⟩
instance : AggIs Try.prog 134 false := ⟨by kernel_rfl⟩
instance : ZeroIs Try.prog 134 (Value.nilFunc) := ⟨by kernel_rfl⟩
instance : BytesIs Try.prog 134 1 8 := ⟨Try.t134, _, by kernel_rfl, rfl, rfl, rfl, rfl, by decide, by decide⟩
instance : SizeIs Try.prog 135 1 := ⟨by kernel_rfl⟩
instance : AggIs Try.prog 135 false := ⟨by kernel_rfl⟩
instance : ZeroIs Try.prog 135 (Value.nilFunc) := ⟨by kernel_rfl⟩
instance : BytesIs Try.prog 135 1 8 := ⟨Try.t135, _, by kernel_rfl, rfl, rfl, rfl, rfl, by decide, by decide⟩
instance : SizeIs Try.prog 137 1 := ⟨by kernel_rfl⟩
instance : AggIs Try.prog 137 false := ⟨by kernel_rfl⟩
instance : ZeroIs Try.prog 137 (Value.nilFunc) := ⟨by kernel_rfl⟩
instance : BytesIs Try.prog 137 1 8 := ⟨Try.t137, _, by kernel_rfl, rfl, rfl, rfl, rfl, by decide, by decide⟩
instance : SizeIs Try.prog 138 1 := ⟨by kernel_rfl⟩
instance : AggIs Try.prog 138 false := ⟨by kernel_rfl⟩
instance : ZeroIs Try.prog 138 (Value.nilFunc) := ⟨by kernel_rfl⟩
instance : BytesIs Try.prog 138 1 8 := ⟨Try.t138, _, by kernel_rfl, rfl, rfl, rfl, rfl, by decide, by decide⟩
instance : SizeIs Try.prog 139 1 := ⟨by kernel_rfl⟩
instance : AggIs Try.prog 139 false := ⟨by kernel_rfl⟩
instance : ZeroIs Try.prog 139 (Value.nilFunc) := ⟨by kernel_rfl⟩
instance : BytesIs Try.prog 139 1 8 := ⟨Try.t139, _, by kernel_rfl, rfl, rfl, rfl, rfl, by decide, by decide⟩
instance : SizeIs Try.prog 140 1 := ⟨by kernel_rfl⟩
instance : AggIs Try.prog 140 false := ⟨by kernel_rfl⟩
instance : ZeroIs Try.prog 140 (Value.nilFunc) := ⟨by kernel_rfl⟩
instance : BytesIs Try.prog 140 1 8 := ⟨Try.t140, _, by kernel_rfl, rfl, rfl, rfl, rfl, by decide, by decide⟩
instance : SizeIs Try.prog 141 1 := ⟨by kernel_rfl⟩
instance : AggIs Try.prog 141 false := ⟨by kernel_rfl⟩
instance : ZeroIs Try.prog 141 (Value.nilFunc) := ⟨by kernel_rfl⟩
instance : BytesIs Try.prog 141 1 8 := ⟨Try.t141, _, by kernel_rfl, rfl, rfl, rfl, rfl, by decide, by decide⟩
instance : SizeIs Try.prog 142 1 := ⟨by kernel_rfl⟩
instance : AggIs Try.prog 142 false := ⟨by kernel_rfl⟩
instance : ZeroIs Try.prog 142 (Value.nilFunc) := ⟨by kernel_rfl⟩
instance : BytesIs Try.prog 142 1 8 := ⟨Try.t142, _, by kernel_rfl, rfl, rfl, rfl, rfl, by decide, by decide⟩
instance : SizeIs Try.prog 143 1 := ⟨by kernel_rfl⟩
instance : AggIs Try.prog 143 false := ⟨by kernel_rfl⟩
instance : ZeroIs Try.prog 143 (Value.nilFunc) := ⟨by kernel_rfl⟩
instance : BytesIs Try.prog 143 1 8 := ⟨Try.t143, _, by kernel_rfl, rfl, rfl, rfl, rfl, by decide, by decide⟩
instance : SizeIs Try.prog 144 1 := ⟨by kernel_rfl⟩
instance : AggIs Try.prog 144 false := ⟨by kernel_rfl⟩
instance : ZeroIs Try.prog 144 (Value.nilFunc) := ⟨by kernel_rfl⟩
instance : BytesIs Try.prog 144 1 8 := ⟨Try.t144, _, by kernel_rfl, rfl, rfl, rfl, rfl, by decide, by decide⟩
instance : SizeIs Try.prog 145 1 := ⟨by kernel_rfl⟩
instance : AggIs Try.prog 145 false := ⟨by kernel_rfl⟩
instance : ZeroIs Try.prog 145 (Value.nilFunc) := ⟨by kernel_rfl⟩
instance : BytesIs Try.prog 145 1 8 := ⟨Try.t145, _, by kernel_rfl, rfl, rfl, rfl, rfl, by decide, by decide⟩
instance : SizeIs Try.prog 146 1 := ⟨by kernel_rfl⟩
instance : AggIs Try.prog 146 false := ⟨by kernel_rfl⟩
instance : ZeroIs Try.prog 146 (Value.nilFunc) := ⟨by kernel_rfl⟩
instance : BytesIs Try.prog 146 1 8 := ⟨Try.t146, _, by kernel_rfl, rfl, rfl, rfl, rfl, by decide, by decide⟩
instance : SizeIs Try.prog 147 1 := ⟨by kernel_rfl⟩
instance : AggIs Try.prog 147 false := ⟨by kernel_rfl⟩
instance : ZeroIs Try.prog 147 (Value.nilFunc) := ⟨by kernel_rfl⟩
instance : BytesIs Try.prog 147 1 8 := ⟨Try.t147, _, by kernel_rfl, rfl, rfl, rfl, rfl, by decide, by decide⟩
instance : UnderIs Try.prog 148 (.slice 80) := ⟨Try.underlying148⟩
instance : SizeIs Try.prog 148 1 := ⟨by kernel_rfl⟩
instance : AggIs Try.prog 148 false := ⟨by kernel_rfl⟩
instance : ZeroIs Try.prog 148 ((Value.slice none 0 0)) := ⟨by kernel_rfl⟩
instance : BytesIs Try.prog 148 1 24 := ⟨Try.t148, _, by kernel_rfl, rfl, rfl, rfl, rfl, by decide, by decide⟩
instance : SizeIs Try.prog 149 1 := ⟨by kernel_rfl⟩
instance : AggIs Try.prog 149 false := ⟨by kernel_rfl⟩
instance : ZeroIs Try.prog 149 (Value.nilFunc) := ⟨by kernel_rfl⟩
instance : BytesIs Try.prog 149 1 8 := ⟨Try.t149, _, by kernel_rfl, rfl, rfl, rfl, rfl, by decide, by decide⟩
instance : SizeIs Try.prog 150 1 := ⟨by kernel_rfl⟩
instance : AggIs Try.prog 150 false := ⟨by kernel_rfl⟩
instance : ZeroIs Try.prog 150 (Value.nilFunc) := ⟨by kernel_rfl⟩
instance : BytesIs Try.prog 150 1 8 := ⟨Try.t150, _, by kernel_rfl, rfl, rfl, rfl, rfl, by decide, by decide⟩
instance : UnderIs Try.prog 151 (.slice 5) := ⟨Try.underlying151⟩
instance : SizeIs Try.prog 151 1 := ⟨by kernel_rfl⟩
instance : AggIs Try.prog 151 false := ⟨by kernel_rfl⟩
instance : ZeroIs Try.prog 151 ((Value.slice none 0 0)) := ⟨by kernel_rfl⟩
instance : BytesIs Try.prog 151 1 24 := ⟨Try.t151, _, by kernel_rfl, rfl, rfl, rfl, rfl, by decide, by decide⟩
instance : SizeIs Try.prog 152 1 := ⟨by kernel_rfl⟩
instance : AggIs Try.prog 152 false := ⟨by kernel_rfl⟩
instance : ZeroIs Try.prog 152 (Value.nilFunc) := ⟨by kernel_rfl⟩
instance : BytesIs Try.prog 152 1 8 := ⟨Try.t152, _, by kernel_rfl, rfl, rfl, rfl, rfl, by decide, by decide⟩
instance : SizeIs Try.prog 153 1 := ⟨by kernel_rfl⟩
instance : AggIs Try.prog 153 false := ⟨by kernel_rfl⟩
instance : ZeroIs Try.prog 153 (Value.nilFunc) := ⟨by kernel_rfl⟩
instance : BytesIs Try.prog 153 1 8 := ⟨Try.t153, _, by kernel_rfl, rfl, rfl, rfl, rfl, by decide, by decide⟩
instance : SizeIs Try.prog 154 1 := ⟨by kernel_rfl⟩
instance : AggIs Try.prog 154 false := ⟨by kernel_rfl⟩
instance : ZeroIs Try.prog 154 (Value.nilFunc) := ⟨by kernel_rfl⟩
instance : BytesIs Try.prog 154 1 8 := ⟨Try.t154, _, by kernel_rfl, rfl, rfl, rfl, rfl, by decide, by decide⟩
instance : SizeIs Try.prog 155 1 := ⟨by kernel_rfl⟩
instance : AggIs Try.prog 155 false := ⟨by kernel_rfl⟩
instance : ZeroIs Try.prog 155 (Value.nilFunc) := ⟨by kernel_rfl⟩
instance : BytesIs Try.prog 155 1 8 := ⟨Try.t155, _, by kernel_rfl, rfl, rfl, rfl, rfl, by decide, by decide⟩
instance : SizeIs Try.prog 157 1 := ⟨by kernel_rfl⟩
instance : AggIs Try.prog 157 false := ⟨by kernel_rfl⟩
instance : ZeroIs Try.prog 157 (Value.nilFunc) := ⟨by kernel_rfl⟩
instance : BytesIs Try.prog 157 1 8 := ⟨Try.t157, _, by kernel_rfl, rfl, rfl, rfl, rfl, by decide, by decide⟩
instance : SizeIs Try.prog 158 1 := ⟨by kernel_rfl⟩
instance : AggIs Try.prog 158 false := ⟨by kernel_rfl⟩
instance : ZeroIs Try.prog 158 (Value.nilFunc) := ⟨by kernel_rfl⟩
instance : BytesIs Try.prog 158 1 8 := ⟨Try.t158, _, by kernel_rfl, rfl, rfl, rfl, rfl, by decide, by decide⟩
instance : UnderIs Try.prog 159 (.int IntKind.u64) := ⟨Try.underlying159⟩
instance : SizeIs Try.prog 159 1 := ⟨by kernel_rfl⟩
instance : AggIs Try.prog 159 false := ⟨by kernel_rfl⟩
instance : ZeroIs Try.prog 159 ((Value.int IntKind.u64 0)) := ⟨by kernel_rfl⟩
instance : BytesIs Try.prog 159 1 8 := ⟨Try.t159, _, by kernel_rfl, rfl, rfl, rfl, rfl, by decide, by decide⟩
instance : SizeIs Try.prog 160 1 := ⟨by kernel_rfl⟩
instance : AggIs Try.prog 160 false := ⟨by kernel_rfl⟩
instance : ZeroIs Try.prog 160 (Value.nilFunc) := ⟨by kernel_rfl⟩
instance : BytesIs Try.prog 160 1 8 := ⟨Try.t160, _, by kernel_rfl, rfl, rfl, rfl, rfl, by decide, by decide⟩
instance : SizeIs Try.prog 161 1 := ⟨by kernel_rfl⟩
instance : AggIs Try.prog 161 false := ⟨by kernel_rfl⟩
instance : ZeroIs Try.prog 161 (Value.nilFunc) := ⟨by kernel_rfl⟩
instance : BytesIs Try.prog 161 1 8 := ⟨Try.t161, _, by kernel_rfl, rfl, rfl, rfl, rfl, by decide, by decide⟩
instance : SizeIs Try.prog 162 1 := ⟨by kernel_rfl⟩
instance : AggIs Try.prog 162 false := ⟨by kernel_rfl⟩
instance : ZeroIs Try.prog 162 (Value.nilFunc) := ⟨by kernel_rfl⟩
instance : BytesIs Try.prog 162 1 8 := ⟨Try.t162, _, by kernel_rfl, rfl, rfl, rfl, rfl, by decide, by decide⟩
instance : SizeIs Try.prog 163 1 := ⟨by kernel_rfl⟩
instance : AggIs Try.prog 163 false := ⟨by kernel_rfl⟩
instance : ZeroIs Try.prog 163 (Value.nilFunc) := ⟨by kernel_rfl⟩
instance : BytesIs Try.prog 163 1 8 := ⟨Try.t163, _, by kernel_rfl, rfl, rfl, rfl, rfl, by decide, by decide⟩
instance : FieldIs Try.prog 164 0 0 3 1 := ⟨_, _, Try.underlying164, rfl, rfl, rfl, by kernel_rfl, by decide⟩
instance : FieldIs Try.prog 164 1 1 3 1 := ⟨_, _, Try.underlying164, rfl, rfl, rfl, by kernel_rfl, by decide⟩
instance : FieldIs Try.prog 164 2 2 4 1 := ⟨_, _, Try.underlying164, rfl, rfl, rfl, by kernel_rfl, by decide⟩
instance : FieldIs Try.prog 164 3 3 4 1 := ⟨_, _, Try.underlying164, rfl, rfl, rfl, by kernel_rfl, by decide⟩
instance : FieldIs Try.prog 164 4 4 9 1 := ⟨_, _, Try.underlying164, rfl, rfl, rfl, by kernel_rfl, by decide⟩
instance : FieldIs Try.prog 164 5 5 163 1 := ⟨_, _, Try.underlying164, rfl, rfl, rfl, by kernel_rfl, by decide⟩
instance : StructOk Try.prog 164 := ⟨_, Try.underlying164, by kernel_rfl⟩
instance : SizeIs Try.prog 164 6 := ⟨by kernel_rfl⟩
instance : AggIs Try.prog 164 true := ⟨by kernel_rfl⟩
instance : ZeroIs Try.prog 164 ((Value.agg #[Value.int IntKind.i64 0, Value.int IntKind.i64 0, Value.bool false, Value.bool false, Value.string ByteArray.empty, Value.nilFunc])) := ⟨by kernel_rfl⟩
instance : BytesIs Try.prog 164 6 48 := ⟨Try.t164, _, by kernel_rfl, rfl, rfl, rfl, rfl, by decide, by decide⟩
instance : FieldIs Try.prog 165 0 0 3 1 := ⟨_, _, Try.underlying165, rfl, rfl, rfl, by kernel_rfl, by decide⟩
instance : FieldIs Try.prog 165 1 1 3 1 := ⟨_, _, Try.underlying165, rfl, rfl, rfl, by kernel_rfl, by decide⟩
instance : FieldIs Try.prog 165 2 2 4 1 := ⟨_, _, Try.underlying165, rfl, rfl, rfl, by kernel_rfl, by decide⟩
instance : FieldIs Try.prog 165 3 3 4 1 := ⟨_, _, Try.underlying165, rfl, rfl, rfl, by kernel_rfl, by decide⟩
instance : FieldIs Try.prog 165 4 4 9 1 := ⟨_, _, Try.underlying165, rfl, rfl, rfl, by kernel_rfl, by decide⟩
instance : FieldIs Try.prog 165 5 5 163 1 := ⟨_, _, Try.underlying165, rfl, rfl, rfl, by kernel_rfl, by decide⟩
instance : StructOk Try.prog 165 := ⟨_, Try.underlying165, by kernel_rfl⟩
instance : SizeIs Try.prog 165 6 := ⟨by kernel_rfl⟩
instance : AggIs Try.prog 165 true := ⟨by kernel_rfl⟩
instance : ZeroIs Try.prog 165 ((Value.agg #[Value.int IntKind.i64 0, Value.int IntKind.i64 0, Value.bool false, Value.bool false, Value.string ByteArray.empty, Value.nilFunc])) := ⟨by kernel_rfl⟩
instance : BytesIs Try.prog 165 6 48 := ⟨Try.t165, _, by kernel_rfl, rfl, rfl, rfl, rfl, by decide, by decide⟩
instance : UnderIs Try.prog 167 (.map 9 165) := ⟨Try.underlying167⟩
instance : SizeIs Try.prog 167 1 := ⟨by kernel_rfl⟩
instance : AggIs Try.prog 167 false := ⟨by kernel_rfl⟩
instance : ZeroIs Try.prog 167 ((Value.map none)) := ⟨by kernel_rfl⟩
instance : BytesIs Try.prog 167 1 8 := ⟨Try.t167, _, by kernel_rfl, rfl, rfl, rfl, rfl, by decide, by decide⟩
instance : SizeIs Try.prog 168 1 := ⟨by kernel_rfl⟩
instance : AggIs Try.prog 168 false := ⟨by kernel_rfl⟩
instance : ZeroIs Try.prog 168 (Value.nilFunc) := ⟨by kernel_rfl⟩
instance : BytesIs Try.prog 168 1 8 := ⟨Try.t168, _, by kernel_rfl, rfl, rfl, rfl, rfl, by decide, by decide⟩
instance : UnderIs Try.prog 169 (.slice 22) := ⟨Try.underlying169⟩
instance : SizeIs Try.prog 169 1 := ⟨by kernel_rfl⟩
instance : AggIs Try.prog 169 false := ⟨by kernel_rfl⟩
instance : ZeroIs Try.prog 169 ((Value.slice none 0 0)) := ⟨by kernel_rfl⟩
instance : BytesIs Try.prog 169 1 24 := ⟨Try.t169, _, by kernel_rfl, rfl, rfl, rfl, rfl, by decide, by decide⟩
instance : SizeIs Try.prog 170 1 := ⟨by kernel_rfl⟩
instance : AggIs Try.prog 170 false := ⟨by kernel_rfl⟩
instance : ZeroIs Try.prog 170 (Value.nilFunc) := ⟨by kernel_rfl⟩
instance : BytesIs Try.prog 170 1 8 := ⟨Try.t170, _, by kernel_rfl, rfl, rfl, rfl, rfl, by decide, by decide⟩
instance : SizeIs Try.prog 171 1 := ⟨by kernel_rfl⟩
instance : AggIs Try.prog 171 false := ⟨by kernel_rfl⟩
instance : ZeroIs Try.prog 171 (Value.nilFunc) := ⟨by kernel_rfl⟩
instance : BytesIs Try.prog 171 1 8 := ⟨Try.t171, _, by kernel_rfl, rfl, rfl, rfl, rfl, by decide, by decide⟩
instance : SizeIs Try.prog 172 1 := ⟨by kernel_rfl⟩
instance : AggIs Try.prog 172 false := ⟨by kernel_rfl⟩
instance : ZeroIs Try.prog 172 (Value.nilFunc) := ⟨by kernel_rfl⟩
instance : BytesIs Try.prog 172 1 8 := ⟨Try.t172, _, by kernel_rfl, rfl, rfl, rfl, rfl, by decide, by decide⟩
instance : SizeIs Try.prog 173 1 := ⟨by kernel_rfl⟩
instance : AggIs Try.prog 173 false := ⟨by kernel_rfl⟩
instance : ZeroIs Try.prog 173 (Value.nilFunc) := ⟨by kernel_rfl⟩
instance : BytesIs Try.prog 173 1 8 := ⟨Try.t173, _, by kernel_rfl, rfl, rfl, rfl, rfl, by decide, by decide⟩
instance : SizeIs Try.prog 174 1 := ⟨by kernel_rfl⟩
instance : AggIs Try.prog 174 false := ⟨by kernel_rfl⟩
instance : ZeroIs Try.prog 174 (Value.nilFunc) := ⟨by kernel_rfl⟩
instance : BytesIs Try.prog 174 1 8 := ⟨Try.t174, _, by kernel_rfl, rfl, rfl, rfl, rfl, by decide, by decide⟩
instance : SizeIs Try.prog 176 1 := ⟨by kernel_rfl⟩
instance : AggIs Try.prog 176 false := ⟨by kernel_rfl⟩
instance : ZeroIs Try.prog 176 (Value.nilFunc) := ⟨by kernel_rfl⟩
instance : BytesIs Try.prog 176 1 8 := ⟨Try.t176, _, by kernel_rfl, rfl, rfl, rfl, rfl, by decide, by decide⟩
instance : SizeIs Try.prog 177 1 := ⟨by kernel_rfl⟩
instance : AggIs Try.prog 177 false := ⟨by kernel_rfl⟩
instance : ZeroIs Try.prog 177 (Value.nilFunc) := ⟨by kernel_rfl⟩
instance : BytesIs Try.prog 177 1 8 := ⟨Try.t177, _, by kernel_rfl, rfl, rfl, rfl, rfl, by decide, by decide⟩
instance : SizeIs Try.prog 178 1 := ⟨by kernel_rfl⟩
instance : AggIs Try.prog 178 false := ⟨by kernel_rfl⟩
instance : ZeroIs Try.prog 178 (Value.nilFunc) := ⟨by kernel_rfl⟩
instance : BytesIs Try.prog 178 1 8 := ⟨Try.t178, _, by kernel_rfl, rfl, rfl, rfl, rfl, by decide, by decide⟩
instance : UnderIs Try.prog 179 (.slice 9) := ⟨Try.underlying179⟩
instance : SizeIs Try.prog 179 1 := ⟨by kernel_rfl⟩
instance : AggIs Try.prog 179 false := ⟨by kernel_rfl⟩
instance : ZeroIs Try.prog 179 ((Value.slice none 0 0)) := ⟨by kernel_rfl⟩
instance : BytesIs Try.prog 179 1 24 := ⟨Try.t179, _, by kernel_rfl, rfl, rfl, rfl, rfl, by decide, by decide⟩
instance : SizeIs Try.prog 181 1 := ⟨by kernel_rfl⟩
instance : AggIs Try.prog 181 false := ⟨by kernel_rfl⟩
instance : ZeroIs Try.prog 181 (Value.nilFunc) := ⟨by kernel_rfl⟩
instance : BytesIs Try.prog 181 1 8 := ⟨Try.t181, _, by kernel_rfl, rfl, rfl, rfl, rfl, by decide, by decide⟩
instance : SizeIs Try.prog 182 1 := ⟨by kernel_rfl⟩
instance : AggIs Try.prog 182 false := ⟨by kernel_rfl⟩
instance : ZeroIs Try.prog 182 (Value.nilFunc) := ⟨by kernel_rfl⟩
instance : BytesIs Try.prog 182 1 8 := ⟨Try.t182, _, by kernel_rfl, rfl, rfl, rfl, rfl, by decide, by decide⟩
instance : SizeIs Try.prog 183 1 := ⟨by kernel_rfl⟩
instance : AggIs Try.prog 183 false := ⟨by kernel_rfl⟩
instance : ZeroIs Try.prog 183 (Value.nilFunc) := ⟨by kernel_rfl⟩
instance : BytesIs Try.prog 183 1 8 := ⟨Try.t183, _, by kernel_rfl, rfl, rfl, rfl, rfl, by decide, by decide⟩
instance : SizeIs Try.prog 184 1 := ⟨by kernel_rfl⟩
instance : AggIs Try.prog 184 false := ⟨by kernel_rfl⟩
instance : ZeroIs Try.prog 184 (Value.nilFunc) := ⟨by kernel_rfl⟩
instance : BytesIs Try.prog 184 1 8 := ⟨Try.t184, _, by kernel_rfl, rfl, rfl, rfl, rfl, by decide, by decide⟩
instance : SizeIs Try.prog 185 1 := ⟨by kernel_rfl⟩
instance : AggIs Try.prog 185 false := ⟨by kernel_rfl⟩
instance : ZeroIs Try.prog 185 (Value.nilFunc) := ⟨by kernel_rfl⟩
instance : BytesIs Try.prog 185 1 8 := ⟨Try.t185, _, by kernel_rfl, rfl, rfl, rfl, rfl, by decide, by decide⟩
instance : SizeIs Try.prog 186 1 := ⟨by kernel_rfl⟩
instance : AggIs Try.prog 186 false := ⟨by kernel_rfl⟩
instance : ZeroIs Try.prog 186 (Value.nilFunc) := ⟨by kernel_rfl⟩
instance : BytesIs Try.prog 186 1 8 := ⟨Try.t186, _, by kernel_rfl, rfl, rfl, rfl, rfl, by decide, by decide⟩
instance : UnderIs Try.prog 187 (.pointer 189) := ⟨Try.underlying187⟩
instance : SizeIs Try.prog 187 1 := ⟨by kernel_rfl⟩
instance : AggIs Try.prog 187 false := ⟨by kernel_rfl⟩
instance : ZeroIs Try.prog 187 ((Value.pointer none)) := ⟨by kernel_rfl⟩
instance : BytesIs Try.prog 187 1 8 := ⟨Try.t187, _, by kernel_rfl, rfl, rfl, rfl, rfl, by decide, by decide⟩
instance : FieldIs Try.prog 188 0 0 82 4 := ⟨_, _, Try.underlying188, rfl, rfl, rfl, by kernel_rfl, by decide⟩
instance : StructOk Try.prog 188 := ⟨_, Try.underlying188, by kernel_rfl⟩
instance : SizeIs Try.prog 188 4 := ⟨by kernel_rfl⟩
instance : AggIs Try.prog 188 true := ⟨by kernel_rfl⟩
instance : ZeroIs Try.prog 188 ((Value.agg #[Value.int IntKind.i64 0, Value.int IntKind.u64 0, Value.int IntKind.u64 0, Value.int IntKind.i64 0])) := ⟨by kernel_rfl⟩
instance : BytesIs Try.prog 188 4 32 := ⟨Try.t188, _, by kernel_rfl, rfl, rfl, rfl, rfl, by decide, by decide⟩
instance : FieldIs Try.prog 189 0 0 82 4 := ⟨_, _, Try.underlying189, rfl, rfl, rfl, by kernel_rfl, by decide⟩
instance : StructOk Try.prog 189 := ⟨_, Try.underlying189, by kernel_rfl⟩
instance : SizeIs Try.prog 189 4 := ⟨by kernel_rfl⟩
instance : AggIs Try.prog 189 true := ⟨by kernel_rfl⟩
instance : ZeroIs Try.prog 189 ((Value.agg #[Value.int IntKind.i64 0, Value.int IntKind.u64 0, Value.int IntKind.u64 0, Value.int IntKind.i64 0])) := ⟨by kernel_rfl⟩
instance : BytesIs Try.prog 189 4 32 := ⟨Try.t189, _, by kernel_rfl, rfl, rfl, rfl, rfl, by decide, by decide⟩
instance : SizeIs Try.prog 190 1 := ⟨by kernel_rfl⟩
instance : AggIs Try.prog 190 false := ⟨by kernel_rfl⟩
instance : ZeroIs Try.prog 190 (Value.nilFunc) := ⟨by kernel_rfl⟩
instance : BytesIs Try.prog 190 1 8 := ⟨Try.t190, _, by kernel_rfl, rfl, rfl, rfl, rfl, by decide, by decide⟩
instance : SizeIs Try.prog 191 1 := ⟨by kernel_rfl⟩
instance : AggIs Try.prog 191 false := ⟨by kernel_rfl⟩
instance : ZeroIs Try.prog 191 (Value.nilFunc) := ⟨by kernel_rfl⟩
instance : BytesIs Try.prog 191 1 8 := ⟨Try.t191, _, by kernel_rfl, rfl, rfl, rfl, rfl, by decide, by decide⟩
instance : SizeIs Try.prog 192 1 := ⟨by kernel_rfl⟩
instance : AggIs Try.prog 192 false := ⟨by kernel_rfl⟩
instance : ZeroIs Try.prog 192 (Value.nilFunc) := ⟨by kernel_rfl⟩
instance : BytesIs Try.prog 192 1 8 := ⟨Try.t192, _, by kernel_rfl, rfl, rfl, rfl, rfl, by decide, by decide⟩
instance : SizeIs Try.prog 193 1 := ⟨by kernel_rfl⟩
instance : AggIs Try.prog 193 false := ⟨by kernel_rfl⟩
instance : ZeroIs Try.prog 193 (Value.nilFunc) := ⟨by kernel_rfl⟩
instance : BytesIs Try.prog 193 1 8 := ⟨Try.t193, _, by kernel_rfl, rfl, rfl, rfl, rfl, by decide, by decide⟩
instance : SizeIs Try.prog 194 1 := ⟨by kernel_rfl⟩
instance : AggIs Try.prog 194 false := ⟨by kernel_rfl⟩
instance : ZeroIs Try.prog 194 (Value.nilFunc) := ⟨by kernel_rfl⟩
instance : BytesIs Try.prog 194 1 8 := ⟨Try.t194, _, by kernel_rfl, rfl, rfl, rfl, rfl, by decide, by decide⟩
instance : SizeIs Try.prog 195 1 := ⟨by kernel_rfl⟩
instance : AggIs Try.prog 195 false := ⟨by kernel_rfl⟩
instance : ZeroIs Try.prog 195 (Value.nilFunc) := ⟨by kernel_rfl⟩
instance : BytesIs Try.prog 195 1 8 := ⟨Try.t195, _, by kernel_rfl, rfl, rfl, rfl, rfl, by decide, by decide⟩
instance : SizeIs Try.prog 196 1 := ⟨by kernel_rfl⟩
instance : AggIs Try.prog 196 false := ⟨by kernel_rfl⟩
instance : ZeroIs Try.prog 196 (Value.nilFunc) := ⟨by kernel_rfl⟩
instance : BytesIs Try.prog 196 1 8 := ⟨Try.t196, _, by kernel_rfl, rfl, rfl, rfl, rfl, by decide, by decide⟩
instance : SizeIs Try.prog 197 1 := ⟨by kernel_rfl⟩
instance : AggIs Try.prog 197 false := ⟨by kernel_rfl⟩
instance : ZeroIs Try.prog 197 (Value.nilFunc) := ⟨by kernel_rfl⟩
instance : BytesIs Try.prog 197 1 8 := ⟨Try.t197, _, by kernel_rfl, rfl, rfl, rfl, rfl, by decide, by decide⟩
instance : SizeIs Try.prog 198 1 := ⟨by kernel_rfl⟩
instance : AggIs Try.prog 198 false := ⟨by kernel_rfl⟩
instance : ZeroIs Try.prog 198 (Value.nilFunc) := ⟨by kernel_rfl⟩
instance : BytesIs Try.prog 198 1 8 := ⟨Try.t198, _, by kernel_rfl, rfl, rfl, rfl, rfl, by decide, by decide⟩
instance : SizeIs Try.prog 199 1 := ⟨by kernel_rfl⟩
instance : AggIs Try.prog 199 false := ⟨by kernel_rfl⟩
instance : ZeroIs Try.prog 199 (Value.nilFunc) := ⟨by kernel_rfl⟩
instance : BytesIs Try.prog 199 1 8 := ⟨Try.t199, _, by kernel_rfl, rfl, rfl, rfl, rfl, by decide, by decide⟩
instance : SizeIs Try.prog 200 1 := ⟨by kernel_rfl⟩
instance : AggIs Try.prog 200 false := ⟨by kernel_rfl⟩
instance : ZeroIs Try.prog 200 (Value.nilFunc) := ⟨by kernel_rfl⟩
instance : BytesIs Try.prog 200 1 8 := ⟨Try.t200, _, by kernel_rfl, rfl, rfl, rfl, rfl, by decide, by decide⟩
instance : SizeIs Try.prog 201 1 := ⟨by kernel_rfl⟩
instance : AggIs Try.prog 201 false := ⟨by kernel_rfl⟩
instance : ZeroIs Try.prog 201 (Value.nilFunc) := ⟨by kernel_rfl⟩
instance : BytesIs Try.prog 201 1 8 := ⟨Try.t201, _, by kernel_rfl, rfl, rfl, rfl, rfl, by decide, by decide⟩
instance : SizeIs Try.prog 202 1 := ⟨by kernel_rfl⟩
instance : AggIs Try.prog 202 false := ⟨by kernel_rfl⟩
instance : ZeroIs Try.prog 202 (Value.nilFunc) := ⟨by kernel_rfl⟩
instance : BytesIs Try.prog 202 1 8 := ⟨Try.t202, _, by kernel_rfl, rfl, rfl, rfl, rfl, by decide, by decide⟩
instance : SizeIs Try.prog 203 1 := ⟨by kernel_rfl⟩
instance : AggIs Try.prog 203 false := ⟨by kernel_rfl⟩
instance : ZeroIs Try.prog 203 (Value.nilFunc) := ⟨by kernel_rfl⟩
instance : BytesIs Try.prog 203 1 8 := ⟨Try.t203, _, by kernel_rfl, rfl, rfl, rfl, rfl, by decide, by decide⟩
instance : SizeIs Try.prog 204 1 := ⟨by kernel_rfl⟩
instance : AggIs Try.prog 204 false := ⟨by kernel_rfl⟩
instance : ZeroIs Try.prog 204 (Value.nilFunc) := ⟨by kernel_rfl⟩
instance : BytesIs Try.prog 204 1 8 := ⟨Try.t204, _, by kernel_rfl, rfl, rfl, rfl, rfl, by decide, by decide⟩
instance : SizeIs Try.prog 205 1 := ⟨by kernel_rfl⟩
instance : AggIs Try.prog 205 false := ⟨by kernel_rfl⟩
instance : ZeroIs Try.prog 205 (Value.nilFunc) := ⟨by kernel_rfl⟩
instance : BytesIs Try.prog 205 1 8 := ⟨Try.t205, _, by kernel_rfl, rfl, rfl, rfl, rfl, by decide, by decide⟩
instance : SizeIs Try.prog 207 1 := ⟨by kernel_rfl⟩
instance : AggIs Try.prog 207 false := ⟨by kernel_rfl⟩
instance : ZeroIs Try.prog 207 (Value.nilFunc) := ⟨by kernel_rfl⟩
instance : BytesIs Try.prog 207 1 8 := ⟨Try.t207, _, by kernel_rfl, rfl, rfl, rfl, rfl, by decide, by decide⟩
instance : SizeIs Try.prog 208 1 := ⟨by kernel_rfl⟩
instance : AggIs Try.prog 208 false := ⟨by kernel_rfl⟩
instance : ZeroIs Try.prog 208 (Value.nilFunc) := ⟨by kernel_rfl⟩
instance : BytesIs Try.prog 208 1 8 := ⟨Try.t208, _, by kernel_rfl, rfl, rfl, rfl, rfl, by decide, by decide⟩
instance : SizeIs Try.prog 210 1 := ⟨by kernel_rfl⟩
instance : AggIs Try.prog 210 false := ⟨by kernel_rfl⟩
instance : ZeroIs Try.prog 210 (Value.nilFunc) := ⟨by kernel_rfl⟩
instance : BytesIs Try.prog 210 1 8 := ⟨Try.t210, _, by kernel_rfl, rfl, rfl, rfl, rfl, by decide, by decide⟩
instance : SizeIs Try.prog 211 1 := ⟨by kernel_rfl⟩
instance : AggIs Try.prog 211 false := ⟨by kernel_rfl⟩
instance : ZeroIs Try.prog 211 (Value.nilFunc) := ⟨by kernel_rfl⟩
instance : BytesIs Try.prog 211 1 8 := ⟨Try.t211, _, by kernel_rfl, rfl, rfl, rfl, rfl, by decide, by decide⟩
instance : SizeIs Try.prog 212 1 := ⟨by kernel_rfl⟩
instance : AggIs Try.prog 212 false := ⟨by kernel_rfl⟩
instance : ZeroIs Try.prog 212 (Value.nilFunc) := ⟨by kernel_rfl⟩
instance : BytesIs Try.prog 212 1 8 := ⟨Try.t212, _, by kernel_rfl, rfl, rfl, rfl, rfl, by decide, by decide⟩
instance : UnderIs Try.prog 213 (.slice 215) := ⟨Try.underlying213⟩
instance : SizeIs Try.prog 213 1 := ⟨by kernel_rfl⟩
instance : AggIs Try.prog 213 false := ⟨by kernel_rfl⟩
instance : ZeroIs Try.prog 213 ((Value.slice none 0 0)) := ⟨by kernel_rfl⟩
instance : BytesIs Try.prog 213 1 24 := ⟨Try.t213, _, by kernel_rfl, rfl, rfl, rfl, rfl, by decide, by decide⟩
instance : FieldIs Try.prog 214 0 0 3 1 := ⟨_, _, Try.underlying214, rfl, rfl, rfl, by kernel_rfl, by decide⟩
instance : FieldIs Try.prog 214 1 1 3 1 := ⟨_, _, Try.underlying214, rfl, rfl, rfl, by kernel_rfl, by decide⟩
instance : FieldIs Try.prog 214 2 2 3 1 := ⟨_, _, Try.underlying214, rfl, rfl, rfl, by kernel_rfl, by decide⟩
instance : StructOk Try.prog 214 := ⟨_, Try.underlying214, by kernel_rfl⟩
instance : SizeIs Try.prog 214 3 := ⟨by kernel_rfl⟩
instance : AggIs Try.prog 214 true := ⟨by kernel_rfl⟩
instance : ZeroIs Try.prog 214 ((Value.agg #[Value.int IntKind.i64 0, Value.int IntKind.i64 0, Value.int IntKind.i64 0])) := ⟨by kernel_rfl⟩
instance : BytesIs Try.prog 214 3 24 := ⟨Try.t214, _, by kernel_rfl, rfl, rfl, rfl, rfl, by decide, by decide⟩
instance : FieldIs Try.prog 215 0 0 3 1 := ⟨_, _, Try.underlying215, rfl, rfl, rfl, by kernel_rfl, by decide⟩
instance : FieldIs Try.prog 215 1 1 3 1 := ⟨_, _, Try.underlying215, rfl, rfl, rfl, by kernel_rfl, by decide⟩
instance : FieldIs Try.prog 215 2 2 3 1 := ⟨_, _, Try.underlying215, rfl, rfl, rfl, by kernel_rfl, by decide⟩
instance : StructOk Try.prog 215 := ⟨_, Try.underlying215, by kernel_rfl⟩
instance : SizeIs Try.prog 215 3 := ⟨by kernel_rfl⟩
instance : AggIs Try.prog 215 true := ⟨by kernel_rfl⟩
instance : ZeroIs Try.prog 215 ((Value.agg #[Value.int IntKind.i64 0, Value.int IntKind.i64 0, Value.int IntKind.i64 0])) := ⟨by kernel_rfl⟩
instance : BytesIs Try.prog 215 3 24 := ⟨Try.t215, _, by kernel_rfl, rfl, rfl, rfl, rfl, by decide, by decide⟩
instance : SizeIs Try.prog 216 1 := ⟨by kernel_rfl⟩
instance : AggIs Try.prog 216 false := ⟨by kernel_rfl⟩
instance : ZeroIs Try.prog 216 (Value.nilFunc) := ⟨by kernel_rfl⟩
instance : BytesIs Try.prog 216 1 8 := ⟨Try.t216, _, by kernel_rfl, rfl, rfl, rfl, rfl, by decide, by decide⟩
instance : SizeIs Try.prog 217 1 := ⟨by kernel_rfl⟩
instance : AggIs Try.prog 217 false := ⟨by kernel_rfl⟩
instance : ZeroIs Try.prog 217 (Value.nilFunc) := ⟨by kernel_rfl⟩
instance : BytesIs Try.prog 217 1 8 := ⟨Try.t217, _, by kernel_rfl, rfl, rfl, rfl, rfl, by decide, by decide⟩
instance : SizeIs Try.prog 218 1 := ⟨by kernel_rfl⟩
instance : AggIs Try.prog 218 false := ⟨by kernel_rfl⟩
instance : ZeroIs Try.prog 218 (Value.nilFunc) := ⟨by kernel_rfl⟩
instance : BytesIs Try.prog 218 1 8 := ⟨Try.t218, _, by kernel_rfl, rfl, rfl, rfl, rfl, by decide, by decide⟩
instance : FieldIs Try.prog 219 0 0 17 1 := ⟨_, _, Try.underlying219, rfl, rfl, rfl, by kernel_rfl, by decide⟩
instance : FieldIs Try.prog 219 1 1 17 1 := ⟨_, _, Try.underlying219, rfl, rfl, rfl, by kernel_rfl, by decide⟩
instance : FieldIs Try.prog 219 2 2 17 1 := ⟨_, _, Try.underlying219, rfl, rfl, rfl, by kernel_rfl, by decide⟩
instance : FieldIs Try.prog 219 3 3 9 1 := ⟨_, _, Try.underlying219, rfl, rfl, rfl, by kernel_rfl, by decide⟩
instance : StructOk Try.prog 219 := ⟨_, Try.underlying219, by kernel_rfl⟩
instance : SizeIs Try.prog 219 4 := ⟨by kernel_rfl⟩
instance : AggIs Try.prog 219 true := ⟨by kernel_rfl⟩
instance : ZeroIs Try.prog 219 ((Value.agg #[Value.pointer none, Value.pointer none, Value.pointer none, Value.string ByteArray.empty])) := ⟨by kernel_rfl⟩
instance : BytesIs Try.prog 219 4 40 := ⟨Try.t219, _, by kernel_rfl, rfl, rfl, rfl, rfl, by decide, by decide⟩
instance : FieldIs Try.prog 220 0 0 17 1 := ⟨_, _, Try.underlying220, rfl, rfl, rfl, by kernel_rfl, by decide⟩
instance : FieldIs Try.prog 220 1 1 17 1 := ⟨_, _, Try.underlying220, rfl, rfl, rfl, by kernel_rfl, by decide⟩
instance : FieldIs Try.prog 220 2 2 17 1 := ⟨_, _, Try.underlying220, rfl, rfl, rfl, by kernel_rfl, by decide⟩
instance : FieldIs Try.prog 220 3 3 9 1 := ⟨_, _, Try.underlying220, rfl, rfl, rfl, by kernel_rfl, by decide⟩
instance : StructOk Try.prog 220 := ⟨_, Try.underlying220, by kernel_rfl⟩
instance : SizeIs Try.prog 220 4 := ⟨by kernel_rfl⟩
instance : AggIs Try.prog 220 true := ⟨by kernel_rfl⟩
instance : ZeroIs Try.prog 220 ((Value.agg #[Value.pointer none, Value.pointer none, Value.pointer none, Value.string ByteArray.empty])) := ⟨by kernel_rfl⟩
instance : BytesIs Try.prog 220 4 40 := ⟨Try.t220, _, by kernel_rfl, rfl, rfl, rfl, rfl, by decide, by decide⟩
instance : UnderIs Try.prog 221 (.array 0 16) := ⟨Try.underlying221⟩
instance : SizeIs Try.prog 221 0 := ⟨by kernel_rfl⟩
instance : AggIs Try.prog 221 true := ⟨by kernel_rfl⟩
instance : StructOk Try.prog 222 := ⟨_, Try.underlying222, by kernel_rfl⟩
instance : SizeIs Try.prog 222 0 := ⟨by kernel_rfl⟩
instance : AggIs Try.prog 222 true := ⟨by kernel_rfl⟩
instance : StructOk Try.prog 223 := ⟨_, Try.underlying223, by kernel_rfl⟩
instance : SizeIs Try.prog 223 0 := ⟨by kernel_rfl⟩
instance : AggIs Try.prog 223 true := ⟨by kernel_rfl⟩
instance : SizeIs Try.prog 224 1 := ⟨by kernel_rfl⟩
instance : AggIs Try.prog 224 false := ⟨by kernel_rfl⟩
instance : ZeroIs Try.prog 224 (Value.nilFunc) := ⟨by kernel_rfl⟩
instance : BytesIs Try.prog 224 1 8 := ⟨Try.t224, _, by kernel_rfl, rfl, rfl, rfl, rfl, by decide, by decide⟩
instance : UnderIs Try.prog 225 (.int IntKind.u32) := ⟨Try.underlying225⟩
instance : SizeIs Try.prog 225 1 := ⟨by kernel_rfl⟩
instance : AggIs Try.prog 225 false := ⟨by kernel_rfl⟩
instance : ZeroIs Try.prog 225 ((Value.int IntKind.u32 0)) := ⟨by kernel_rfl⟩
instance : BytesIs Try.prog 225 1 4 := ⟨Try.t225, _, by kernel_rfl, rfl, rfl, rfl, rfl, by decide, by decide⟩
instance : UnderIs Try.prog 226 (.int IntKind.u8) := ⟨Try.underlying226⟩
instance : SizeIs Try.prog 226 1 := ⟨by kernel_rfl⟩
instance : AggIs Try.prog 226 false := ⟨by kernel_rfl⟩
instance : ZeroIs Try.prog 226 ((Value.int IntKind.u8 0)) := ⟨by kernel_rfl⟩
instance : BytesIs Try.prog 226 1 1 := ⟨Try.t226, _, by kernel_rfl, rfl, rfl, rfl, rfl, by decide, by decide⟩
instance : UnderIs Try.prog 227 (.int IntKind.u8) := ⟨Try.underlying227⟩
instance : SizeIs Try.prog 227 1 := ⟨by kernel_rfl⟩
instance : AggIs Try.prog 227 false := ⟨by kernel_rfl⟩
instance : ZeroIs Try.prog 227 ((Value.int IntKind.u8 0)) := ⟨by kernel_rfl⟩
instance : BytesIs Try.prog 227 1 1 := ⟨Try.t227, _, by kernel_rfl, rfl, rfl, rfl, rfl, by decide, by decide⟩
instance : SizeIs Try.prog 228 1 := ⟨by kernel_rfl⟩
instance : AggIs Try.prog 228 false := ⟨by kernel_rfl⟩
instance : ZeroIs Try.prog 228 (Value.nilFunc) := ⟨by kernel_rfl⟩
instance : BytesIs Try.prog 228 1 8 := ⟨Try.t228, _, by kernel_rfl, rfl, rfl, rfl, rfl, by decide, by decide⟩
instance : UnderIs Try.prog 229 (.pointer 5) := ⟨Try.underlying229⟩
instance : SizeIs Try.prog 229 1 := ⟨by kernel_rfl⟩
instance : AggIs Try.prog 229 false := ⟨by kernel_rfl⟩
instance : ZeroIs Try.prog 229 ((Value.pointer none)) := ⟨by kernel_rfl⟩
instance : BytesIs Try.prog 229 1 8 := ⟨Try.t229, _, by kernel_rfl, rfl, rfl, rfl, rfl, by decide, by decide⟩
instance : UnderIs Try.prog 230 (.int IntKind.i32) := ⟨Try.underlying230⟩
instance : SizeIs Try.prog 230 1 := ⟨by kernel_rfl⟩
instance : AggIs Try.prog 230 false := ⟨by kernel_rfl⟩
instance : ZeroIs Try.prog 230 ((Value.int IntKind.i32 0)) := ⟨by kernel_rfl⟩
instance : BytesIs Try.prog 230 1 4 := ⟨Try.t230, _, by kernel_rfl, rfl, rfl, rfl, rfl, by decide, by decide⟩
instance : UnderIs Try.prog 231 (.int IntKind.i32) := ⟨Try.underlying231⟩
instance : SizeIs Try.prog 231 1 := ⟨by kernel_rfl⟩
instance : AggIs Try.prog 231 false := ⟨by kernel_rfl⟩
instance : ZeroIs Try.prog 231 ((Value.int IntKind.i32 0)) := ⟨by kernel_rfl⟩
instance : BytesIs Try.prog 231 1 4 := ⟨Try.t231, _, by kernel_rfl, rfl, rfl, rfl, rfl, by decide, by decide⟩
instance : FieldIs Try.prog 232 0 0 12 1 := ⟨_, _, Try.underlying232, rfl, rfl, rfl, by kernel_rfl, by decide⟩
instance : FieldIs Try.prog 232 1 1 12 1 := ⟨_, _, Try.underlying232, rfl, rfl, rfl, by kernel_rfl, by decide⟩
instance : FieldIs Try.prog 232 2 2 225 1 := ⟨_, _, Try.underlying232, rfl, rfl, rfl, by kernel_rfl, by decide⟩
instance : FieldIs Try.prog 232 3 3 226 1 := ⟨_, _, Try.underlying232, rfl, rfl, rfl, by kernel_rfl, by decide⟩
instance : FieldIs Try.prog 232 4 4 5 1 := ⟨_, _, Try.underlying232, rfl, rfl, rfl, by kernel_rfl, by decide⟩
instance : FieldIs Try.prog 232 5 5 5 1 := ⟨_, _, Try.underlying232, rfl, rfl, rfl, by kernel_rfl, by decide⟩
instance : FieldIs Try.prog 232 6 6 227 1 := ⟨_, _, Try.underlying232, rfl, rfl, rfl, by kernel_rfl, by decide⟩
instance : FieldIs Try.prog 232 7 7 228 1 := ⟨_, _, Try.underlying232, rfl, rfl, rfl, by kernel_rfl, by decide⟩
instance : FieldIs Try.prog 232 8 8 229 1 := ⟨_, _, Try.underlying232, rfl, rfl, rfl, by kernel_rfl, by decide⟩
instance : FieldIs Try.prog 232 9 9 230 1 := ⟨_, _, Try.underlying232, rfl, rfl, rfl, by kernel_rfl, by decide⟩
instance : FieldIs Try.prog 232 10 10 231 1 := ⟨_, _, Try.underlying232, rfl, rfl, rfl, by kernel_rfl, by decide⟩
instance : StructOk Try.prog 232 := ⟨_, Try.underlying232, by kernel_rfl⟩
instance : SizeIs Try.prog 232 11 := ⟨by kernel_rfl⟩
instance : AggIs Try.prog 232 true := ⟨by kernel_rfl⟩
instance : ZeroIs Try.prog 232 ((Value.agg #[Value.int IntKind.u64 0, Value.int IntKind.u64 0, Value.int IntKind.u32 0, Value.int IntKind.u8 0, Value.int IntKind.u8 0, Value.int IntKind.u8 0, Value.int IntKind.u8 0, Value.nilFunc, Value.pointer none, Value.int IntKind.i32 0, Value.int IntKind.i32 0])) := ⟨by kernel_rfl⟩
instance : BytesIs Try.prog 232 11 48 := ⟨Try.t232, _, by kernel_rfl, rfl, rfl, rfl, rfl, by decide, by decide⟩
instance : FieldIs Try.prog 233 0 0 12 1 := ⟨_, _, Try.underlying233, rfl, rfl, rfl, by kernel_rfl, by decide⟩
instance : FieldIs Try.prog 233 1 1 12 1 := ⟨_, _, Try.underlying233, rfl, rfl, rfl, by kernel_rfl, by decide⟩
instance : FieldIs Try.prog 233 2 2 225 1 := ⟨_, _, Try.underlying233, rfl, rfl, rfl, by kernel_rfl, by decide⟩
instance : FieldIs Try.prog 233 3 3 226 1 := ⟨_, _, Try.underlying233, rfl, rfl, rfl, by kernel_rfl, by decide⟩
instance : FieldIs Try.prog 233 4 4 5 1 := ⟨_, _, Try.underlying233, rfl, rfl, rfl, by kernel_rfl, by decide⟩
instance : FieldIs Try.prog 233 5 5 5 1 := ⟨_, _, Try.underlying233, rfl, rfl, rfl, by kernel_rfl, by decide⟩
instance : FieldIs Try.prog 233 6 6 227 1 := ⟨_, _, Try.underlying233, rfl, rfl, rfl, by kernel_rfl, by decide⟩
instance : FieldIs Try.prog 233 7 7 228 1 := ⟨_, _, Try.underlying233, rfl, rfl, rfl, by kernel_rfl, by decide⟩
instance : FieldIs Try.prog 233 8 8 229 1 := ⟨_, _, Try.underlying233, rfl, rfl, rfl, by kernel_rfl, by decide⟩
instance : FieldIs Try.prog 233 9 9 230 1 := ⟨_, _, Try.underlying233, rfl, rfl, rfl, by kernel_rfl, by decide⟩
instance : FieldIs Try.prog 233 10 10 231 1 := ⟨_, _, Try.underlying233, rfl, rfl, rfl, by kernel_rfl, by decide⟩
instance : StructOk Try.prog 233 := ⟨_, Try.underlying233, by kernel_rfl⟩
instance : SizeIs Try.prog 233 11 := ⟨by kernel_rfl⟩
instance : AggIs Try.prog 233 true := ⟨by kernel_rfl⟩
instance : ZeroIs Try.prog 233 ((Value.agg #[Value.int IntKind.u64 0, Value.int IntKind.u64 0, Value.int IntKind.u32 0, Value.int IntKind.u8 0, Value.int IntKind.u8 0, Value.int IntKind.u8 0, Value.int IntKind.u8 0, Value.nilFunc, Value.pointer none, Value.int IntKind.i32 0, Value.int IntKind.i32 0])) := ⟨by kernel_rfl⟩
instance : BytesIs Try.prog 233 11 48 := ⟨Try.t233, _, by kernel_rfl, rfl, rfl, rfl, rfl, by decide, by decide⟩
instance : SizeIs Try.prog 234 1 := ⟨by kernel_rfl⟩
instance : AggIs Try.prog 234 false := ⟨by kernel_rfl⟩
instance : ZeroIs Try.prog 234 (Value.nilFunc) := ⟨by kernel_rfl⟩
instance : BytesIs Try.prog 234 1 8 := ⟨Try.t234, _, by kernel_rfl, rfl, rfl, rfl, rfl, by decide, by decide⟩
instance : FieldIs Try.prog 237 0 0 236 1 := ⟨_, _, Try.underlying237, rfl, rfl, rfl, by kernel_rfl, by decide⟩
instance : FieldIs Try.prog 237 1 1 236 1 := ⟨_, _, Try.underlying237, rfl, rfl, rfl, by kernel_rfl, by decide⟩
instance : StructOk Try.prog 237 := ⟨_, Try.underlying237, by kernel_rfl⟩
instance : SizeIs Try.prog 237 2 := ⟨by kernel_rfl⟩
instance : AggIs Try.prog 237 true := ⟨by kernel_rfl⟩
instance : FieldIs Try.prog 238 0 0 236 1 := ⟨_, _, Try.underlying238, rfl, rfl, rfl, by kernel_rfl, by decide⟩
instance : FieldIs Try.prog 238 1 1 236 1 := ⟨_, _, Try.underlying238, rfl, rfl, rfl, by kernel_rfl, by decide⟩
instance : StructOk Try.prog 238 := ⟨_, Try.underlying238, by kernel_rfl⟩
instance : SizeIs Try.prog 238 2 := ⟨by kernel_rfl⟩
instance : AggIs Try.prog 238 true := ⟨by kernel_rfl⟩
instance : FieldIs Try.prog 239 0 0 238 2 := ⟨_, _, Try.underlying239, rfl, rfl, rfl, by kernel_rfl, by decide⟩
instance : FieldIs Try.prog 239 1 2 3 1 := ⟨_, _, Try.underlying239, rfl, rfl, rfl, by kernel_rfl, by decide⟩
instance : StructOk Try.prog 239 := ⟨_, Try.underlying239, by kernel_rfl⟩
instance : SizeIs Try.prog 239 3 := ⟨by kernel_rfl⟩
instance : AggIs Try.prog 239 true := ⟨by kernel_rfl⟩
instance : FieldIs Try.prog 240 0 0 238 2 := ⟨_, _, Try.underlying240, rfl, rfl, rfl, by kernel_rfl, by decide⟩
instance : FieldIs Try.prog 240 1 2 3 1 := ⟨_, _, Try.underlying240, rfl, rfl, rfl, by kernel_rfl, by decide⟩
instance : StructOk Try.prog 240 := ⟨_, Try.underlying240, by kernel_rfl⟩
instance : SizeIs Try.prog 240 3 := ⟨by kernel_rfl⟩
instance : AggIs Try.prog 240 true := ⟨by kernel_rfl⟩
end Go.Ideal

-- La
set_option linter.unusedSimpArgs false
set_option linter.unusedVariables false
namespace Go.Ideal
open Go Go.Proofs
/-! ### Words of 64 bits -/
def u64s (xs : List Nat) : List Value := xs.map fun (x : Nat) => Value.int .u64 (x : Int)
theorem u64s_len (xs : List Nat) : (u64s xs).length = xs.length := by simp [u64s]
theorem u64s_at {xs : List Nat} {i : Nat} {v : Value} (h : (u64s xs)[i]? = some v) : ∃ x : Nat, v = .int .u64 x ∧ xs[i]? = some x := by
  simp only [u64s, List.getElem?_map, Option.map_eq_some_iff] at h
  obtain ⟨x, h1, rfl⟩ := h
  exact ⟨x, rfl, h1⟩
theorem wrap_u64_id {z : Int} (h0 : 0 ≤ z) (h : z < 2 ^ 64) : IntKind.u64.wrap z = z := by
  simp only [IntKind.wrap, IntKind.bits, IntKind.signed]; simp; omega
theorem bvNat {x : Nat} (h : x < 2 ^ 64) : (BitVec.ofInt IntKind.u64.bits (x : Int)).toNat = x := by
  have hb : IntKind.u64.bits = 64 := rfl
  simp only [BitVec.toNat_ofInt, hb]
  omega
theorem xor_u64 {a b : Nat} (ha : a < 2 ^ 64) (hb : b < 2 ^ 64) : ibits .xor .u64 a b = (a ^^^ b : Nat) := by
  show IntKind.u64.wrap (((BitVec.ofInt IntKind.u64.bits a) ^^^ (BitVec.ofInt IntKind.u64.bits b)).toNat : Int) = _
  rw [BitVec.toNat_xor, bvNat ha, bvNat hb]
  have := Nat.xor_lt_two_pow ha hb
  exact wrap_u64_id (by omega) (by omega)
theorem shr_u64 {a : Nat} {n : Int} (h0 : 0 ≤ n) (ha : a < 2 ^ 64) : ((a : Int)).fdiv (2 ^ min n.toNat IntKind.u64.bits) = (a >>> n.toNat : Nat) := by
  have hb : IntKind.u64.bits = 64 := rfl
  rw [hb, Nat.shiftRight_eq_div_pow]
  have h2 : (2 : Int) ^ min n.toNat 64 = ((2 ^ min n.toNat 64 : Nat) : Int) := by simp
  rw [h2, Int.fdiv_eq_ediv_of_nonneg _ (Int.natCast_nonneg _), ← Int.natCast_ediv]
  congr 1
  by_cases hn : n.toNat ≤ 64
  · rw [Nat.min_eq_left hn]
  · rw [Nat.min_eq_right (by omega), Nat.div_eq_of_lt ha, Nat.div_eq_of_lt]
    exact Nat.lt_of_lt_of_le ha (Nat.pow_le_pow_right (by decide) (by omega))
instance : CallIs Try.prog 114 := .of Try.func114 rfl rfl
instance : CallIs Try.prog 73 := .of Try.func73 rfl rfl
instance : CallIs Try.prog 33 := .of Try.func33 rfl rfl
def eyeS (n : Int) : List Nat := (List.range n.toNat).map fun i => 2 ^ i
theorem eyeS_succ {i : Int} (h : 0 ≤ i) : u64s (eyeS (i + 1)) = u64s (eyeS i) ++ [.int .u64 (2 ^ i.toNat : Nat)] := by
  have : (i + 1).toNat = i.toNat + 1 := by omega
  simp [u64s, eyeS, this, List.range_succ]
theorem eyeS_len {i : Int} : (u64s (eyeS i)).length = i.toNat := by simp [u64s, eyeS]
theorem shl_one {i : Int} (h0 : 0 ≤ i) (h1 : i < 64) : IntKind.u64.wrap (1 * 2 ^ min i.toNat IntKind.u64.bits) = (2 ^ i.toNat : Nat) := by
  have h2 : min i.toNat IntKind.u64.bits = i.toNat := by simp only [IntKind.bits]; omega
  have h3 : (2 : Int) ^ i.toNat < 2 ^ 64 := Int.pow_lt_pow_of_lt (by decide) (by omega)
  have h4 : (0 : Int) ≤ 2 ^ i.toNat := Int.pow_nonneg (by decide)
  rw [h2, Int.one_mul, wrap_u64_id h4 h3]
  simp
theorem Eye_spec (n : Int) (h : IHp) : EvX Try.prog 69 [.int .i64 n].toArray h (fun v h' => Ext h h' ∧ if 0 ≤ n ∧ n ≤ 64 then ∃ sl, v = .tuple [.agg [.int .i64 n, sl].toArray, .int .i64 0].toArray ∧ Lst h.fresh h' sl (u64s (eyeS n)) 42 else v = .tuple [.agg [.int .i64 0, .slice none 0 0].toArray, .int .i64 2].toArray) := by
  refine EvX_of Try.func69 rfl (by show 1 ≤ 28; decide) ?_
  repeat' (first | (first | refine V_seq ?_ | refine V_region ?_ | refine WS_nil ?_ | refine S_normal ?_ | refine V_block ?_ | refine B_normal ?_ | refine V_skip ?_ | refine V_exit ?_ | refine V_ret ?_ | refine S_exit ?_ | refine S_ret ?_ | refine B_exit ?_ | refine B_ret ?_ | refine B_pass rfl ?_ | refine C_normal ?_ | refine C_exit ?_ | refine C_ret ?_ | refine WS_off rfl (by first | rfl | assumption) ?_ | refine WS_on rfl (by first | rfl | assumption) ?_ | refine WS_move ?_ | refine WS_assign ?_ | refine WS_pick_t (by first | rfl | assumption) ?_ | refine WS_pick_f (by first | rfl | assumption) ?_ | refine WS_isnil ?_ | refine WS_notnil ?_ | refine WS_cmp rfl ?_ | refine WS_addi (by omega) ?_ | refine WS_subi (by omega) ?_ | refine WS_arith rfl ?_ | refine WS_not ?_ | refine WS_neg ?_ | refine WS_convert ?_ | refine WS_len_slice ?_ | refine WS_len_string ?_ | refine WS_fieldAddr ?_ | refine WS_load ?_ | refine WS_load_agg ?_ | refine WS_box_agg rfl ?_ | refine WS_box rfl ?_ | refine WS_makeFunc ?_ | refine WS_extract ?_ | refine WS_field ?_ | refine WS_build ?_ | refine WS_zero ?_ | refine WS_shift (by first | decide | omega) rfl ?_ | refine WS_strcmp rfl ?_ | refine WS_indexAddr (by first | decide | omega) ?_ | refine WS_alloc ?_ | refine WS_store rfl ?_ | refine WS_buildSlice (by decide) rfl rfl (by simp [Value.cells]) ?_ | refine WDK_go ?_ | refine WDT_go ?_ | refine WD_nil ?_ | refine WD_take_off rfl rfl (by first | rfl | assumption) ?_ | refine WD_load rfl ?_ | refine WD_load_on rfl rfl (by first | rfl | assumption) ?_ | refine WD_load_agg rfl ?_ | refine WD_load_agg_on rfl rfl (by first | rfl | assumption) ?_ | refine WD_take rfl rfl ?_ | refine WD_take_on rfl rfl (by first | rfl | assumption) rfl ?_ | refine WD_drop rfl rfl ?_ | refine WD_one rfl ?_) | (refine WS_guard rfl ?_ ?_ <;> intro hg) | (refine V_cond ?_ ?_ <;> intro hc <;> try (cases hc; done)))
  · refine retK_ct ⟨(Ext.push h _).putObj (Nat.le_refl _), ?_⟩ (.inr rfl)
    rw [if_neg (by simp at hc; omega)]
  · have hn : 0 ≤ n ∧ n ≤ 64 := by simp at hc hg; omega
    refine V_loop (fun d s h' => ∃ (i : Int) (sl : Value), d = (n - i).toNat ∧ 0 ≤ i ∧ i ≤ n ∧ Get s 16 (.int .i64 i) ∧ Get s 15 (.int .i64 n) ∧ Get s 4 (.pointer (some (ad (h.fresh + 2) 0))) ∧ Get s 2 (.pointer (some (ad h.fresh 0))) ∧ Ext h h' ∧ ObjIs h' h.fresh [.int .i64 0, .slice none 0 0] 53 true ∧ ObjIs h' (h.fresh + 2) [.int .i64 n, sl] 53 true ∧ Lst h.fresh h' sl (u64s (eyeS i)) 42 ∧ blockOf sl ≠ some h.fresh ∧ blockOf sl ≠ some (h.fresh + 2)) n.toNat ?_ ?_
    · rw [push_fresh]
      have nb : NeB h.fresh (h.fresh + 2) := ⟨by unfold IHp.fresh; omega⟩
      have ob : ObjIs ((h.push (IObj.cells [Value.int IntKind.i64 0, Value.slice none 0 0] 53 true)).push (IObj.cells [Value.int IntKind.i64 0, Value.slice none 0 0] 53 true)) (h.fresh + 2) [Value.int IntKind.i64 0, Value.slice none 0 0] 53 true := by
        rw [← push_fresh h (IObj.cells [Value.int IntKind.i64 0, Value.slice none 0 0] 53 true)]; infer_instance
      exact ⟨0, .slice none 0 0, by omega, by omega, by omega, inferInstance, inferInstance, inferInstance, inferInstance, (((Ext.push h _).push' _).putObj (by omega)), inferInstance, inferInstance, .inl ⟨rfl, rfl⟩, by simp [blockOf], by simp [blockOf]⟩
    rintro d s h' ⟨i, sl, rfl, hi0, hi1, g16, g15, g4, g2, eX, o2, o4, hL, hb2, hb4⟩
    repeat' (first | (first | refine V_seq ?_ | refine V_region ?_ | refine WS_nil ?_ | refine S_normal ?_ | refine V_block ?_ | refine B_normal ?_ | refine V_skip ?_ | refine V_exit ?_ | refine V_ret ?_ | refine S_exit ?_ | refine S_ret ?_ | refine B_exit ?_ | refine B_ret ?_ | refine B_pass rfl ?_ | refine C_normal ?_ | refine C_exit ?_ | refine C_ret ?_ | refine WS_off rfl (by first | rfl | assumption) ?_ | refine WS_on rfl (by first | rfl | assumption) ?_ | refine WS_move ?_ | refine WS_assign ?_ | refine WS_pick_t (by first | rfl | assumption) ?_ | refine WS_pick_f (by first | rfl | assumption) ?_ | refine WS_isnil ?_ | refine WS_notnil ?_ | refine WS_cmp rfl ?_ | refine WS_addi (by omega) ?_ | refine WS_subi (by omega) ?_ | refine WS_arith rfl ?_ | refine WS_not ?_ | refine WS_neg ?_ | refine WS_convert ?_ | refine WS_len_slice ?_ | refine WS_len_string ?_ | refine WS_fieldAddr ?_ | refine WS_load ?_ | refine WS_load_agg ?_ | refine WS_box_agg rfl ?_ | refine WS_box rfl ?_ | refine WS_makeFunc ?_ | refine WS_extract ?_ | refine WS_field ?_ | refine WS_build ?_ | refine WS_zero ?_ | refine WS_shift (by first | decide | omega) rfl ?_ | refine WS_strcmp rfl ?_ | refine WS_indexAddr (by first | decide | omega) ?_ | refine WS_alloc ?_ | refine WS_store rfl ?_ | refine WS_buildSlice (by decide) rfl rfl (by simp [Value.cells]) ?_ | refine WDK_go ?_ | refine WDT_go ?_ | refine WD_nil ?_ | refine WD_take_off rfl rfl (by first | rfl | assumption) ?_ | refine WD_load rfl ?_ | refine WD_load_on rfl rfl (by first | rfl | assumption) ?_ | refine WD_load_agg rfl ?_ | refine WD_load_agg_on rfl rfl (by first | rfl | assumption) ?_ | refine WD_take rfl rfl ?_ | refine WD_take_on rfl rfl (by first | rfl | assumption) rfl ?_ | refine WD_drop rfl rfl ?_ | refine WD_one rfl ?_) | (refine WS_guard rfl ?_ ?_ <;> intro hg) | (refine V_cond ?_ ?_ <;> intro hc <;> try (cases hc; done)))
    · have hi : i < n := by simpa using hc
      obtain ⟨a, rfl⟩ := hL.isSlice
      refine V_draw (plan := [.take 0, .take 1, .take 2, .take 3, .one 4, .one 5, .take 6, .one 7]) (by kernel_rfl) ?_
      repeat' (first | (first | refine V_seq ?_ | refine V_region ?_ | refine WS_nil ?_ | refine S_normal ?_ | refine V_block ?_ | refine B_normal ?_ | refine V_skip ?_ | refine V_exit ?_ | refine V_ret ?_ | refine S_exit ?_ | refine S_ret ?_ | refine B_exit ?_ | refine B_ret ?_ | refine B_pass rfl ?_ | refine C_normal ?_ | refine C_exit ?_ | refine C_ret ?_ | refine WS_off rfl (by first | rfl | assumption) ?_ | refine WS_on rfl (by first | rfl | assumption) ?_ | refine WS_move ?_ | refine WS_assign ?_ | refine WS_pick_t (by first | rfl | assumption) ?_ | refine WS_pick_f (by first | rfl | assumption) ?_ | refine WS_isnil ?_ | refine WS_notnil ?_ | refine WS_cmp rfl ?_ | refine WS_addi (by omega) ?_ | refine WS_subi (by omega) ?_ | refine WS_arith rfl ?_ | refine WS_not ?_ | refine WS_neg ?_ | refine WS_convert ?_ | refine WS_len_slice ?_ | refine WS_len_string ?_ | refine WS_fieldAddr ?_ | refine WS_load ?_ | refine WS_load_agg ?_ | refine WS_box_agg rfl ?_ | refine WS_box rfl ?_ | refine WS_makeFunc ?_ | refine WS_extract ?_ | refine WS_field ?_ | refine WS_build ?_ | refine WS_zero ?_ | refine WS_shift (by first | decide | omega) rfl ?_ | refine WS_strcmp rfl ?_ | refine WS_indexAddr (by first | decide | omega) ?_ | refine WS_alloc ?_ | refine WS_store rfl ?_ | refine WS_buildSlice (by decide) rfl rfl (by simp [Value.cells]) ?_ | refine WDK_go ?_ | refine WDT_go ?_ | refine WD_nil ?_ | refine WD_take_off rfl rfl (by first | rfl | assumption) ?_ | refine WD_load rfl ?_ | refine WD_load_on rfl rfl (by first | rfl | assumption) ?_ | refine WD_load_agg rfl ?_ | refine WD_load_agg_on rfl rfl (by first | rfl | assumption) ?_ | refine WD_take rfl rfl ?_ | refine WD_take_on rfl rfl (by first | rfl | assumption) rfl ?_ | refine WD_drop rfl rfl ?_ | refine WD_one rfl ?_) | (refine WS_guard rfl ?_ ?_ <;> intro hg) | (refine V_cond ?_ ?_ <;> intro hc <;> try (cases hc; done)))
      have h64 : i < 64 := by omega
      rw [shl_one hi0 h64]
      refine WS_append1 (lo := h.fresh) (hL.ext (Ext.push _ _)) (by rw [push_fresh]; have := eX.fresh; omega) (by rw [eyeS_len]; omega) ?_
      intro v' h2 hL2 m2 hb
      have p2 : ObjIs h2 h.fresh [.int .i64 0, .slice none 0 0] 53 true := m2.obj inferInstance hb2
      have p4 : ObjIs h2 (h.fresh + 2) _ 53 true := m2.obj inferInstance hb4
      have e2 : Ext h h2 := m2.ext (eX.push' _) (hL.ext (Ext.push _ _))
      have hn4 : h.fresh + 2 < (h'.push (IObj.cells [Value.int IntKind.u64 (2 ^ i.toNat : Nat)] 42 true)).fresh := by have := o4.lt; rw [push_fresh]; omega
      obtain ⟨a', rfl⟩ := hL2.isSlice
      have nb : NeB h.fresh (h.fresh + 2) := ⟨by unfold IHp.fresh; omega⟩
      repeat' (first | (first | refine V_seq ?_ | refine V_region ?_ | refine WS_nil ?_ | refine S_normal ?_ | refine V_block ?_ | refine B_normal ?_ | refine V_skip ?_ | refine V_exit ?_ | refine V_ret ?_ | refine S_exit ?_ | refine S_ret ?_ | refine B_exit ?_ | refine B_ret ?_ | refine B_pass rfl ?_ | refine C_normal ?_ | refine C_exit ?_ | refine C_ret ?_ | refine WS_off rfl (by first | rfl | assumption) ?_ | refine WS_on rfl (by first | rfl | assumption) ?_ | refine WS_move ?_ | refine WS_assign ?_ | refine WS_pick_t (by first | rfl | assumption) ?_ | refine WS_pick_f (by first | rfl | assumption) ?_ | refine WS_isnil ?_ | refine WS_notnil ?_ | refine WS_cmp rfl ?_ | refine WS_addi (by omega) ?_ | refine WS_subi (by omega) ?_ | refine WS_arith rfl ?_ | refine WS_not ?_ | refine WS_neg ?_ | refine WS_convert ?_ | refine WS_len_slice ?_ | refine WS_len_string ?_ | refine WS_fieldAddr ?_ | refine WS_load ?_ | refine WS_load_agg ?_ | refine WS_box_agg rfl ?_ | refine WS_box rfl ?_ | refine WS_makeFunc ?_ | refine WS_extract ?_ | refine WS_field ?_ | refine WS_build ?_ | refine WS_zero ?_ | refine WS_shift (by first | decide | omega) rfl ?_ | refine WS_strcmp rfl ?_ | refine WS_indexAddr (by first | decide | omega) ?_ | refine WS_alloc ?_ | refine WS_store rfl ?_ | refine WS_buildSlice (by decide) rfl rfl (by simp [Value.cells]) ?_ | refine WDK_go ?_ | refine WDT_go ?_ | refine WD_nil ?_ | refine WD_take_off rfl rfl (by first | rfl | assumption) ?_ | refine WD_load rfl ?_ | refine WD_load_on rfl rfl (by first | rfl | assumption) ?_ | refine WD_load_agg rfl ?_ | refine WD_load_agg_on rfl rfl (by first | rfl | assumption) ?_ | refine WD_take rfl rfl ?_ | refine WD_take_on rfl rfl (by first | rfl | assumption) rfl ?_ | refine WD_drop rfl rfl ?_ | refine WD_one rfl ?_) | (refine WS_guard rfl ?_ ?_ <;> intro hg) | (refine V_cond ?_ ?_ <;> intro hc <;> try (cases hc; done)))
      refine ⟨_, ?_, i + 1, _, rfl, by omega, by omega, inferInstance, inferInstance, inferInstance, inferInstance, e2.putObj (by omega), inferInstance, inferInstance, ?_, ?_, ?_⟩
      · omega
      · rw [eyeS_succ hi0]; exact hL2.put (by rw [hb]; intro hh; have := Option.some.inj hh; omega) o4.even
      · rw [hb]; intro hh; have := Option.some.inj hh; omega
      · rw [hb]; intro hh; have := Option.some.inj hh; omega
    · have hi : i = n := by simp at hc; omega
      subst hi
      obtain ⟨a, rfl⟩ := hL.isSlice
      repeat' (first | (first | refine V_seq ?_ | refine V_region ?_ | refine WS_nil ?_ | refine S_normal ?_ | refine V_block ?_ | refine B_normal ?_ | refine V_skip ?_ | refine V_exit ?_ | refine V_ret ?_ | refine S_exit ?_ | refine S_ret ?_ | refine B_exit ?_ | refine B_ret ?_ | refine B_pass rfl ?_ | refine C_normal ?_ | refine C_exit ?_ | refine C_ret ?_ | refine WS_off rfl (by first | rfl | assumption) ?_ | refine WS_on rfl (by first | rfl | assumption) ?_ | refine WS_move ?_ | refine WS_assign ?_ | refine WS_pick_t (by first | rfl | assumption) ?_ | refine WS_pick_f (by first | rfl | assumption) ?_ | refine WS_isnil ?_ | refine WS_notnil ?_ | refine WS_cmp rfl ?_ | refine WS_addi (by omega) ?_ | refine WS_subi (by omega) ?_ | refine WS_arith rfl ?_ | refine WS_not ?_ | refine WS_neg ?_ | refine WS_convert ?_ | refine WS_len_slice ?_ | refine WS_len_string ?_ | refine WS_fieldAddr ?_ | refine WS_load ?_ | refine WS_load_agg ?_ | refine WS_box_agg rfl ?_ | refine WS_box rfl ?_ | refine WS_makeFunc ?_ | refine WS_extract ?_ | refine WS_field ?_ | refine WS_build ?_ | refine WS_zero ?_ | refine WS_shift (by first | decide | omega) rfl ?_ | refine WS_strcmp rfl ?_ | refine WS_indexAddr (by first | decide | omega) ?_ | refine WS_alloc ?_ | refine WS_store rfl ?_ | refine WS_buildSlice (by decide) rfl rfl (by simp [Value.cells]) ?_ | refine WDK_go ?_ | refine WDT_go ?_ | refine WD_nil ?_ | refine WD_take_off rfl rfl (by first | rfl | assumption) ?_ | refine WD_load rfl ?_ | refine WD_load_on rfl rfl (by first | rfl | assumption) ?_ | refine WD_load_agg rfl ?_ | refine WD_load_agg_on rfl rfl (by first | rfl | assumption) ?_ | refine WD_take rfl rfl ?_ | refine WD_take_on rfl rfl (by first | rfl | assumption) rfl ?_ | refine WD_drop rfl rfl ?_ | refine WD_one rfl ?_) | (refine WS_guard rfl ?_ ?_ <;> intro hg) | (refine V_cond ?_ ?_ <;> intro hc <;> try (cases hc; done)))
      have nb : NeB (h.fresh + 2) h.fresh := ⟨by unfold IHp.fresh; omega⟩
      refine retK_ct ⟨eX.putObj (Nat.le_refl _), ?_⟩ (.inr rfl)
      rw [if_pos hn]
      exact ⟨_, rfl, hL.put hb2 o2.even⟩
  · refine retK_ct ⟨(Ext.push h _).putObj (Nat.le_refl _), ?_⟩ (.inr rfl)
    rw [if_neg (by simp at hg; omega)]
instance : CallIs Try.prog 69 := .of Try.func69 rfl rfl
end Go.Ideal

-- Lb
set_option linter.unusedSimpArgs false
set_option linter.unusedVariables false
namespace Go.Ideal
open Go Go.Proofs
instance : CallIs Try.prog 75 := .of Try.func75 rfl rfl

theorem Eye_ref (n : Int) (h : IHp) : EvX Try.prog 70 [.int .i64 n].toArray h (fun v h' => Ext h h' ∧ if 0 ≤ n ∧ n ≤ 64 then ∃ sl, v = .tuple [.agg [.int .i64 n, sl].toArray, .int .i64 0].toArray ∧ Lst h.fresh h' sl (u64s (eyeS n)) 42 else v = .tuple [.agg [.int .i64 0, .slice none 0 0].toArray, .int .i64 2].toArray) := by
  refine EvX_of Try.func70 rfl (by show 1 ≤ 28; decide) ?_
  repeat' (first | (first | refine V_seq ?_ | refine V_region ?_ | refine WS_nil ?_ | refine S_normal ?_ | refine V_block ?_ | refine B_normal ?_ | refine V_skip ?_ | refine V_exit ?_ | refine V_ret ?_ | refine S_exit ?_ | refine S_ret ?_ | refine B_exit ?_ | refine B_ret ?_ | refine B_pass rfl ?_ | refine C_normal ?_ | refine C_exit ?_ | refine C_ret ?_ | refine WS_off rfl (by first | rfl | assumption) ?_ | refine WS_on rfl (by first | rfl | assumption) ?_ | refine WS_move ?_ | refine WS_assign ?_ | refine WS_pick_t (by first | rfl | assumption) ?_ | refine WS_pick_f (by first | rfl | assumption) ?_ | refine WS_isnil ?_ | refine WS_notnil ?_ | refine WS_cmp rfl ?_ | refine WS_addi (by omega) ?_ | refine WS_subi (by omega) ?_ | refine WS_arith rfl ?_ | refine WS_not ?_ | refine WS_neg ?_ | refine WS_convert ?_ | refine WS_len_slice ?_ | refine WS_len_string ?_ | refine WS_fieldAddr ?_ | refine WS_load ?_ | refine WS_load_agg ?_ | refine WS_box_agg rfl ?_ | refine WS_box rfl ?_ | refine WS_makeFunc ?_ | refine WS_extract ?_ | refine WS_field ?_ | refine WS_build ?_ | refine WS_zero ?_ | refine WS_shift (by first | decide | omega) rfl ?_ | refine WS_strcmp rfl ?_ | refine WS_indexAddr (by first | decide | omega) ?_ | refine WS_alloc ?_ | refine WS_store rfl ?_ | refine WS_buildSlice (by decide) rfl rfl (by simp [Value.cells]) ?_ | refine WDK_go ?_ | refine WDT_go ?_ | refine WD_nil ?_ | refine WD_take_off rfl rfl (by first | rfl | assumption) ?_ | refine WD_load rfl ?_ | refine WD_load_on rfl rfl (by first | rfl | assumption) ?_ | refine WD_load_agg rfl ?_ | refine WD_load_agg_on rfl rfl (by first | rfl | assumption) ?_ | refine WD_take rfl rfl ?_ | refine WD_take_on rfl rfl (by first | rfl | assumption) rfl ?_ | refine WD_drop rfl rfl ?_ | refine WD_one rfl ?_) | (refine WS_guard rfl ?_ ?_ <;> intro hg) | (refine V_cond ?_ ?_ <;> intro hc <;> try (cases hc; done)))
  · refine retK_ct ⟨(Ext.push h _).putObj (Nat.le_refl _), ?_⟩ (.inr rfl)
    rw [if_neg (by simp at hc; omega)]
  · have hn : 0 ≤ n ∧ n ≤ 64 := by simp at hc hg; omega
    refine V_loop (fun d s h' => ∃ (i : Int) (sl : Value), d = (n - i).toNat ∧ 0 ≤ i ∧ i ≤ n ∧ Get s 5 (.int .i64 i) ∧ Get s 0 (.int .i64 n) ∧ Get s 4 (.pointer (some (ad (h.fresh + 2) 0))) ∧ Get s 2 (.pointer (some (ad h.fresh 0))) ∧ Ext h h' ∧ ObjIs h' h.fresh [.int .i64 0, .slice none 0 0] 53 true ∧ ObjIs h' (h.fresh + 2) [.int .i64 n, sl] 53 true ∧ Lst h.fresh h' sl (u64s (eyeS i)) 42 ∧ blockOf sl ≠ some h.fresh ∧ blockOf sl ≠ some (h.fresh + 2)) n.toNat ?_ ?_
    · rw [push_fresh]
      have nb : NeB h.fresh (h.fresh + 2) := ⟨by unfold IHp.fresh; omega⟩
      have ob : ObjIs ((h.push (IObj.cells [Value.int IntKind.i64 0, Value.slice none 0 0] 53 true)).push (IObj.cells [Value.int IntKind.i64 0, Value.slice none 0 0] 53 true)) (h.fresh + 2) [Value.int IntKind.i64 0, Value.slice none 0 0] 53 true := by
        rw [← push_fresh h (IObj.cells [Value.int IntKind.i64 0, Value.slice none 0 0] 53 true)]; infer_instance
      exact ⟨0, .slice none 0 0, by omega, by omega, by omega, inferInstance, inferInstance, inferInstance, inferInstance, (((Ext.push h _).push' _).putObj (by omega)), inferInstance, inferInstance, .inl ⟨rfl, rfl⟩, by simp [blockOf], by simp [blockOf]⟩
    rintro d s h' ⟨i, sl, rfl, hi0, hi1, g5, g0, g4, g2, eX, o2, o4, hL, hb2, hb4⟩
    repeat' (first | (first | refine V_seq ?_ | refine V_region ?_ | refine WS_nil ?_ | refine S_normal ?_ | refine V_block ?_ | refine B_normal ?_ | refine V_skip ?_ | refine V_exit ?_ | refine V_ret ?_ | refine S_exit ?_ | refine S_ret ?_ | refine B_exit ?_ | refine B_ret ?_ | refine B_pass rfl ?_ | refine C_normal ?_ | refine C_exit ?_ | refine C_ret ?_ | refine WS_off rfl (by first | rfl | assumption) ?_ | refine WS_on rfl (by first | rfl | assumption) ?_ | refine WS_move ?_ | refine WS_assign ?_ | refine WS_pick_t (by first | rfl | assumption) ?_ | refine WS_pick_f (by first | rfl | assumption) ?_ | refine WS_isnil ?_ | refine WS_notnil ?_ | refine WS_cmp rfl ?_ | refine WS_addi (by omega) ?_ | refine WS_subi (by omega) ?_ | refine WS_arith rfl ?_ | refine WS_not ?_ | refine WS_neg ?_ | refine WS_convert ?_ | refine WS_len_slice ?_ | refine WS_len_string ?_ | refine WS_fieldAddr ?_ | refine WS_load ?_ | refine WS_load_agg ?_ | refine WS_box_agg rfl ?_ | refine WS_box rfl ?_ | refine WS_makeFunc ?_ | refine WS_extract ?_ | refine WS_field ?_ | refine WS_build ?_ | refine WS_zero ?_ | refine WS_shift (by first | decide | omega) rfl ?_ | refine WS_strcmp rfl ?_ | refine WS_indexAddr (by first | decide | omega) ?_ | refine WS_alloc ?_ | refine WS_store rfl ?_ | refine WS_buildSlice (by decide) rfl rfl (by simp [Value.cells]) ?_ | refine WDK_go ?_ | refine WDT_go ?_ | refine WD_nil ?_ | refine WD_take_off rfl rfl (by first | rfl | assumption) ?_ | refine WD_load rfl ?_ | refine WD_load_on rfl rfl (by first | rfl | assumption) ?_ | refine WD_load_agg rfl ?_ | refine WD_load_agg_on rfl rfl (by first | rfl | assumption) ?_ | refine WD_take rfl rfl ?_ | refine WD_take_on rfl rfl (by first | rfl | assumption) rfl ?_ | refine WD_drop rfl rfl ?_ | refine WD_one rfl ?_) | (refine WS_guard rfl ?_ ?_ <;> intro hg) | (refine V_cond ?_ ?_ <;> intro hc <;> try (cases hc; done)))
    · have hi : i < n := by simpa using hc
      obtain ⟨a, rfl⟩ := hL.isSlice
      refine V_draw (plan := [.take 0, .take 1, .take 2, .take 3, .one 4, .one 5, .take 6, .one 7]) (by kernel_rfl) ?_
      repeat' (first | (first | refine V_seq ?_ | refine V_region ?_ | refine WS_nil ?_ | refine S_normal ?_ | refine V_block ?_ | refine B_normal ?_ | refine V_skip ?_ | refine V_exit ?_ | refine V_ret ?_ | refine S_exit ?_ | refine S_ret ?_ | refine B_exit ?_ | refine B_ret ?_ | refine B_pass rfl ?_ | refine C_normal ?_ | refine C_exit ?_ | refine C_ret ?_ | refine WS_off rfl (by first | rfl | assumption) ?_ | refine WS_on rfl (by first | rfl | assumption) ?_ | refine WS_move ?_ | refine WS_assign ?_ | refine WS_pick_t (by first | rfl | assumption) ?_ | refine WS_pick_f (by first | rfl | assumption) ?_ | refine WS_isnil ?_ | refine WS_notnil ?_ | refine WS_cmp rfl ?_ | refine WS_addi (by omega) ?_ | refine WS_subi (by omega) ?_ | refine WS_arith rfl ?_ | refine WS_not ?_ | refine WS_neg ?_ | refine WS_convert ?_ | refine WS_len_slice ?_ | refine WS_len_string ?_ | refine WS_fieldAddr ?_ | refine WS_load ?_ | refine WS_load_agg ?_ | refine WS_box_agg rfl ?_ | refine WS_box rfl ?_ | refine WS_makeFunc ?_ | refine WS_extract ?_ | refine WS_field ?_ | refine WS_build ?_ | refine WS_zero ?_ | refine WS_shift (by first | decide | omega) rfl ?_ | refine WS_strcmp rfl ?_ | refine WS_indexAddr (by first | decide | omega) ?_ | refine WS_alloc ?_ | refine WS_store rfl ?_ | refine WS_buildSlice (by decide) rfl rfl (by simp [Value.cells]) ?_ | refine WDK_go ?_ | refine WDT_go ?_ | refine WD_nil ?_ | refine WD_take_off rfl rfl (by first | rfl | assumption) ?_ | refine WD_load rfl ?_ | refine WD_load_on rfl rfl (by first | rfl | assumption) ?_ | refine WD_load_agg rfl ?_ | refine WD_load_agg_on rfl rfl (by first | rfl | assumption) ?_ | refine WD_take rfl rfl ?_ | refine WD_take_on rfl rfl (by first | rfl | assumption) rfl ?_ | refine WD_drop rfl rfl ?_ | refine WD_one rfl ?_) | (refine WS_guard rfl ?_ ?_ <;> intro hg) | (refine V_cond ?_ ?_ <;> intro hc <;> try (cases hc; done)))
      have h64 : i < 64 := by omega
      rw [shl_one hi0 h64]
      refine WS_append1 (lo := h.fresh) (hL.ext (Ext.push _ _)) (by rw [push_fresh]; have := eX.fresh; omega) (by rw [eyeS_len]; omega) ?_
      intro v' h2 hL2 m2 hb
      have p2 : ObjIs h2 h.fresh [.int .i64 0, .slice none 0 0] 53 true := m2.obj inferInstance hb2
      have p4 : ObjIs h2 (h.fresh + 2) _ 53 true := m2.obj inferInstance hb4
      have e2 : Ext h h2 := m2.ext (eX.push' _) (hL.ext (Ext.push _ _))
      have hn4 : h.fresh + 2 < (h'.push (IObj.cells [Value.int IntKind.u64 (2 ^ i.toNat : Nat)] 42 true)).fresh := by have := o4.lt; rw [push_fresh]; omega
      obtain ⟨a', rfl⟩ := hL2.isSlice
      have nb : NeB h.fresh (h.fresh + 2) := ⟨by unfold IHp.fresh; omega⟩
      repeat' (first | (first | refine V_seq ?_ | refine V_region ?_ | refine WS_nil ?_ | refine S_normal ?_ | refine V_block ?_ | refine B_normal ?_ | refine V_skip ?_ | refine V_exit ?_ | refine V_ret ?_ | refine S_exit ?_ | refine S_ret ?_ | refine B_exit ?_ | refine B_ret ?_ | refine B_pass rfl ?_ | refine C_normal ?_ | refine C_exit ?_ | refine C_ret ?_ | refine WS_off rfl (by first | rfl | assumption) ?_ | refine WS_on rfl (by first | rfl | assumption) ?_ | refine WS_move ?_ | refine WS_assign ?_ | refine WS_pick_t (by first | rfl | assumption) ?_ | refine WS_pick_f (by first | rfl | assumption) ?_ | refine WS_isnil ?_ | refine WS_notnil ?_ | refine WS_cmp rfl ?_ | refine WS_addi (by omega) ?_ | refine WS_subi (by omega) ?_ | refine WS_arith rfl ?_ | refine WS_not ?_ | refine WS_neg ?_ | refine WS_convert ?_ | refine WS_len_slice ?_ | refine WS_len_string ?_ | refine WS_fieldAddr ?_ | refine WS_load ?_ | refine WS_load_agg ?_ | refine WS_box_agg rfl ?_ | refine WS_box rfl ?_ | refine WS_makeFunc ?_ | refine WS_extract ?_ | refine WS_field ?_ | refine WS_build ?_ | refine WS_zero ?_ | refine WS_shift (by first | decide | omega) rfl ?_ | refine WS_strcmp rfl ?_ | refine WS_indexAddr (by first | decide | omega) ?_ | refine WS_alloc ?_ | refine WS_store rfl ?_ | refine WS_buildSlice (by decide) rfl rfl (by simp [Value.cells]) ?_ | refine WDK_go ?_ | refine WDT_go ?_ | refine WD_nil ?_ | refine WD_take_off rfl rfl (by first | rfl | assumption) ?_ | refine WD_load rfl ?_ | refine WD_load_on rfl rfl (by first | rfl | assumption) ?_ | refine WD_load_agg rfl ?_ | refine WD_load_agg_on rfl rfl (by first | rfl | assumption) ?_ | refine WD_take rfl rfl ?_ | refine WD_take_on rfl rfl (by first | rfl | assumption) rfl ?_ | refine WD_drop rfl rfl ?_ | refine WD_one rfl ?_) | (refine WS_guard rfl ?_ ?_ <;> intro hg) | (refine V_cond ?_ ?_ <;> intro hc <;> try (cases hc; done)))
      refine ⟨_, ?_, i + 1, _, rfl, by omega, by omega, inferInstance, inferInstance, inferInstance, inferInstance, e2.putObj (by omega), inferInstance, inferInstance, ?_, ?_, ?_⟩
      · omega
      · rw [eyeS_succ hi0]; exact hL2.put (by rw [hb]; intro hh; have := Option.some.inj hh; omega) o4.even
      · rw [hb]; intro hh; have := Option.some.inj hh; omega
      · rw [hb]; intro hh; have := Option.some.inj hh; omega
    · have hi : i = n := by simp at hc; omega
      subst hi
      obtain ⟨a, rfl⟩ := hL.isSlice
      repeat' (first | (first | refine V_seq ?_ | refine V_region ?_ | refine WS_nil ?_ | refine S_normal ?_ | refine V_block ?_ | refine B_normal ?_ | refine V_skip ?_ | refine V_exit ?_ | refine V_ret ?_ | refine S_exit ?_ | refine S_ret ?_ | refine B_exit ?_ | refine B_ret ?_ | refine B_pass rfl ?_ | refine C_normal ?_ | refine C_exit ?_ | refine C_ret ?_ | refine WS_off rfl (by first | rfl | assumption) ?_ | refine WS_on rfl (by first | rfl | assumption) ?_ | refine WS_move ?_ | refine WS_assign ?_ | refine WS_pick_t (by first | rfl | assumption) ?_ | refine WS_pick_f (by first | rfl | assumption) ?_ | refine WS_isnil ?_ | refine WS_notnil ?_ | refine WS_cmp rfl ?_ | refine WS_addi (by omega) ?_ | refine WS_subi (by omega) ?_ | refine WS_arith rfl ?_ | refine WS_not ?_ | refine WS_neg ?_ | refine WS_convert ?_ | refine WS_len_slice ?_ | refine WS_len_string ?_ | refine WS_fieldAddr ?_ | refine WS_load ?_ | refine WS_load_agg ?_ | refine WS_box_agg rfl ?_ | refine WS_box rfl ?_ | refine WS_makeFunc ?_ | refine WS_extract ?_ | refine WS_field ?_ | refine WS_build ?_ | refine WS_zero ?_ | refine WS_shift (by first | decide | omega) rfl ?_ | refine WS_strcmp rfl ?_ | refine WS_indexAddr (by first | decide | omega) ?_ | refine WS_alloc ?_ | refine WS_store rfl ?_ | refine WS_buildSlice (by decide) rfl rfl (by simp [Value.cells]) ?_ | refine WDK_go ?_ | refine WDT_go ?_ | refine WD_nil ?_ | refine WD_take_off rfl rfl (by first | rfl | assumption) ?_ | refine WD_load rfl ?_ | refine WD_load_on rfl rfl (by first | rfl | assumption) ?_ | refine WD_load_agg rfl ?_ | refine WD_load_agg_on rfl rfl (by first | rfl | assumption) ?_ | refine WD_take rfl rfl ?_ | refine WD_take_on rfl rfl (by first | rfl | assumption) rfl ?_ | refine WD_drop rfl rfl ?_ | refine WD_one rfl ?_) | (refine WS_guard rfl ?_ ?_ <;> intro hg) | (refine V_cond ?_ ?_ <;> intro hc <;> try (cases hc; done)))
      have nb : NeB (h.fresh + 2) h.fresh := ⟨by unfold IHp.fresh; omega⟩
      refine retK_ct ⟨eX.putObj (Nat.le_refl _), ?_⟩ (.inr rfl)
      rw [if_pos hn]
      exact ⟨_, rfl, hL.put hb2 o2.even⟩
  · refine retK_ct ⟨(Ext.push h _).putObj (Nat.le_refl _), ?_⟩ (.inr rfl)
    rw [if_neg (by simp at hg; omega)]
instance : CallIs Try.prog 70 := .of Try.func70 rfl rfl

theorem Same_spec (M N : Int) (a b : Option Addr) (la ca lb cb : Nat) (xs ys : List Nat) (h : IHp) (hx : SlIs h a la ca (u64s xs)) (hy : SlIs h b lb cb (u64s ys)) (hla : la < 2 ^ 62) :
    EvX Try.prog 31 [.agg [.int .i64 M, .slice a la ca].toArray, .agg [.int .i64 N, .slice b lb cb].toArray].toArray h (fun v h' => v = .bool (decide (M = N ∧ xs = ys)) ∧ Ext h h') := by
  have hlx : xs.length = la := by have := hx.1; simpa [u64s] using this
  have hly : ys.length = lb := by have := hy.1; simpa [u64s] using this
  refine EvX_of Try.func31 rfl (by show 2 ≤ 38; decide) ?_
  repeat' (first | (first | refine V_seq ?_ | refine V_region ?_ | refine WS_nil ?_ | refine S_normal ?_ | refine V_block ?_ | refine B_normal ?_ | refine V_skip ?_ | refine V_exit ?_ | refine V_ret ?_ | refine S_exit ?_ | refine S_ret ?_ | refine B_exit ?_ | refine B_ret ?_ | refine B_pass rfl ?_ | refine C_normal ?_ | refine C_exit ?_ | refine C_ret ?_ | refine WS_off rfl (by first | rfl | assumption) ?_ | refine WS_on rfl (by first | rfl | assumption) ?_ | refine WS_move ?_ | refine WS_assign ?_ | refine WS_pick_t (by first | rfl | assumption) ?_ | refine WS_pick_f (by first | rfl | assumption) ?_ | refine WS_isnil ?_ | refine WS_notnil ?_ | refine WS_cmp rfl ?_ | refine WS_addi (by omega) ?_ | refine WS_subi (by omega) ?_ | refine WS_arith rfl ?_ | refine WS_not ?_ | refine WS_neg ?_ | refine WS_convert ?_ | refine WS_len_slice ?_ | refine WS_len_string ?_ | refine WS_fieldAddr ?_ | refine WS_load ?_ | refine WS_load_agg ?_ | refine WS_box_agg rfl ?_ | refine WS_box rfl ?_ | refine WS_makeFunc ?_ | refine WS_extract ?_ | refine WS_field ?_ | refine WS_build ?_ | refine WS_zero ?_ | refine WS_shift (by first | decide | omega) rfl ?_ | refine WS_strcmp rfl ?_ | refine WS_indexAddr (by first | decide | omega) ?_ | refine WS_alloc ?_ | refine WS_store rfl ?_ | refine WS_buildSlice (by decide) rfl rfl (by simp [Value.cells]) ?_ | refine WDK_go ?_ | refine WDT_go ?_ | refine WD_nil ?_ | refine WD_take_off rfl rfl (by first | rfl | assumption) ?_ | refine WD_load rfl ?_ | refine WD_load_on rfl rfl (by first | rfl | assumption) ?_ | refine WD_load_agg rfl ?_ | refine WD_load_agg_on rfl rfl (by first | rfl | assumption) ?_ | refine WD_take rfl rfl ?_ | refine WD_take_on rfl rfl (by first | rfl | assumption) rfl ?_ | refine WD_drop rfl rfl ?_ | refine WD_one rfl ?_) | (refine WS_guard rfl ?_ ?_ <;> intro hg) | (refine V_cond ?_ ?_ <;> intro hc <;> try (cases hc; done)))
  · refine retK_1 ⟨?_, (Ext.push _ _).push' _⟩ (.inr rfl)
    congr 1
    symm; rw [decide_eq_false_iff_not]
    rintro ⟨rfl, rfl⟩
    simp at hc; omega
  · have hN : M = N ∧ la = lb := by simp at hc hg; omega
    obtain ⟨rfl, rfl⟩ := hN
    obtain ⟨H1, hH1⟩ : ∃ H, H = h.push (IObj.cells [Value.int IntKind.i64 M, Value.slice a la ca] 53 true) := ⟨_, rfl⟩
    rw [← hH1]
    have d0 : CellIs H1 h.fresh (0 + 1) (.slice a la ca) := hH1 ▸ inferInstance
    obtain ⟨H, hH⟩ : ∃ H, H = H1.push (IObj.cells [Value.int IntKind.i64 M, Value.slice b la cb] 53 true) := ⟨_, rfl⟩
    rw [← hH]
    have eH : Ext h H := by rw [hH, hH1]; exact (Ext.push _ _).push' _
    have c0 : CellIs H h.fresh (0 + 1) (.slice a la ca) := hH ▸ inferInstance
    have c1 : CellIs H H1.fresh (0 + 1) (.slice b la cb) := hH ▸ inferInstance
    refine V_loop (fun d s h' => ∃ i : Int, d = (la - i).toNat ∧ 0 ≤ i ∧ i ≤ la ∧ Get s 5 (.int .i64 i) ∧ Get s 2 (.pointer (some (ad h.fresh 0))) ∧ Get s 3 (.pointer (some (ad H1.fresh 0))) ∧ h' = H ∧ xs.take i.toNat = ys.take i.toNat) la ⟨0, by omega, by omega, by omega, inferInstance, inferInstance, inferInstance, rfl, by simp⟩ ?_
    rintro d s h' ⟨i, rfl, hi0, hi1, g5, g2, g3, rfl, hP⟩
    repeat' (first | (first | refine V_seq ?_ | refine V_region ?_ | refine WS_nil ?_ | refine S_normal ?_ | refine V_block ?_ | refine B_normal ?_ | refine V_skip ?_ | refine V_exit ?_ | refine V_ret ?_ | refine S_exit ?_ | refine S_ret ?_ | refine B_exit ?_ | refine B_ret ?_ | refine B_pass rfl ?_ | refine C_normal ?_ | refine C_exit ?_ | refine C_ret ?_ | refine WS_off rfl (by first | rfl | assumption) ?_ | refine WS_on rfl (by first | rfl | assumption) ?_ | refine WS_move ?_ | refine WS_assign ?_ | refine WS_pick_t (by first | rfl | assumption) ?_ | refine WS_pick_f (by first | rfl | assumption) ?_ | refine WS_isnil ?_ | refine WS_notnil ?_ | refine WS_cmp rfl ?_ | refine WS_addi (by omega) ?_ | refine WS_subi (by omega) ?_ | refine WS_arith rfl ?_ | refine WS_not ?_ | refine WS_neg ?_ | refine WS_convert ?_ | refine WS_len_slice ?_ | refine WS_len_string ?_ | refine WS_fieldAddr ?_ | refine WS_load ?_ | refine WS_load_agg ?_ | refine WS_box_agg rfl ?_ | refine WS_box rfl ?_ | refine WS_makeFunc ?_ | refine WS_extract ?_ | refine WS_field ?_ | refine WS_build ?_ | refine WS_zero ?_ | refine WS_shift (by first | decide | omega) rfl ?_ | refine WS_strcmp rfl ?_ | refine WS_indexAddr (by first | decide | omega) ?_ | refine WS_alloc ?_ | refine WS_store rfl ?_ | refine WS_buildSlice (by decide) rfl rfl (by simp [Value.cells]) ?_ | refine WDK_go ?_ | refine WDT_go ?_ | refine WD_nil ?_ | refine WD_take_off rfl rfl (by first | rfl | assumption) ?_ | refine WD_load rfl ?_ | refine WD_load_on rfl rfl (by first | rfl | assumption) ?_ | refine WD_load_agg rfl ?_ | refine WD_load_agg_on rfl rfl (by first | rfl | assumption) ?_ | refine WD_take rfl rfl ?_ | refine WD_take_on rfl rfl (by first | rfl | assumption) rfl ?_ | refine WD_drop rfl rfl ?_ | refine WD_one rfl ?_) | (refine WS_guard rfl ?_ ?_ <;> intro hg) | (refine V_cond ?_ ?_ <;> intro hc <;> try (cases hc; done)))
    · have hi : i < la := by simp at hc; omega
      obtain ⟨b1, v, rfl, hv, c2⟩ := (hx.ext eH).at hi0 hi
      obtain ⟨x, rfl, hx1⟩ := u64s_at hv
      obtain ⟨b2, w, rfl, hw, c3⟩ := (hy.ext eH).at hi0 hi
      obtain ⟨y, rfl, hy1⟩ := u64s_at hw
      refine V_draw (plan := [.take 0, .take 1, .take 2, .take 3, .take 4, .take 5, .take 6, .take 7, .take 8, .take 9, .take 10]) (by kernel_rfl) ?_
      repeat' (first | (first | refine V_seq ?_ | refine V_region ?_ | refine WS_nil ?_ | refine S_normal ?_ | refine V_block ?_ | refine B_normal ?_ | refine V_skip ?_ | refine V_exit ?_ | refine V_ret ?_ | refine S_exit ?_ | refine S_ret ?_ | refine B_exit ?_ | refine B_ret ?_ | refine B_pass rfl ?_ | refine C_normal ?_ | refine C_exit ?_ | refine C_ret ?_ | refine WS_off rfl (by first | rfl | assumption) ?_ | refine WS_on rfl (by first | rfl | assumption) ?_ | refine WS_move ?_ | refine WS_assign ?_ | refine WS_pick_t (by first | rfl | assumption) ?_ | refine WS_pick_f (by first | rfl | assumption) ?_ | refine WS_isnil ?_ | refine WS_notnil ?_ | refine WS_cmp rfl ?_ | refine WS_addi (by omega) ?_ | refine WS_subi (by omega) ?_ | refine WS_arith rfl ?_ | refine WS_not ?_ | refine WS_neg ?_ | refine WS_convert ?_ | refine WS_len_slice ?_ | refine WS_len_string ?_ | refine WS_fieldAddr ?_ | refine WS_load ?_ | refine WS_load_agg ?_ | refine WS_box_agg rfl ?_ | refine WS_box rfl ?_ | refine WS_makeFunc ?_ | refine WS_extract ?_ | refine WS_field ?_ | refine WS_build ?_ | refine WS_zero ?_ | refine WS_shift (by first | decide | omega) rfl ?_ | refine WS_strcmp rfl ?_ | refine WS_indexAddr (by first | decide | omega) ?_ | refine WS_alloc ?_ | refine WS_store rfl ?_ | refine WS_buildSlice (by decide) rfl rfl (by simp [Value.cells]) ?_ | refine WDK_go ?_ | refine WDT_go ?_ | refine WD_nil ?_ | refine WD_take_off rfl rfl (by first | rfl | assumption) ?_ | refine WD_load rfl ?_ | refine WD_load_on rfl rfl (by first | rfl | assumption) ?_ | refine WD_load_agg rfl ?_ | refine WD_load_agg_on rfl rfl (by first | rfl | assumption) ?_ | refine WD_take rfl rfl ?_ | refine WD_take_on rfl rfl (by first | rfl | assumption) rfl ?_ | refine WD_drop rfl rfl ?_ | refine WD_one rfl ?_) | (refine WS_guard rfl ?_ ?_ <;> intro hg) | (refine V_cond ?_ ?_ <;> intro hc <;> try (cases hc; done)))
      · refine retK_1 ⟨?_, eH⟩ (.inr rfl)
        congr 1
        symm; rw [decide_eq_false_iff_not]
        rintro ⟨_, rfl⟩
        rw [hx1] at hy1
        simp at hy1; subst hy1
        simp at hc
      · refine ⟨_, ?_, i + 1, rfl, by omega, by omega, inferInstance, inferInstance, inferInstance, rfl, ?_⟩
        · omega
        · have : (i + 1).toNat = i.toNat + 1 := by omega
          have hxy : x = y := by simp at hc; omega
          rw [this, List.take_add_one, List.take_add_one, hx1, hy1, hP, hxy]
    · have hi : i = la := by simp at hc; omega
      refine retK_1 ⟨?_, eH⟩ (.inr rfl)
      congr 1
      symm; rw [decide_eq_true_iff]
      rw [hi, Int.toNat_natCast, List.take_of_length_le (by omega), List.take_of_length_le (by omega)] at hP
      exact ⟨rfl, hP⟩
  · refine retK_1 ⟨?_, (Ext.push _ _).push' _⟩ (.inr rfl)
    congr 1
    symm; rw [decide_eq_false_iff_not]
    rintro ⟨rfl, rfl⟩
    simp at hg
instance : CallIs Try.prog 31 := .of Try.func31 rfl rfl
end Go.Ideal

-- Lc
set_option linter.unusedSimpArgs false
set_option linter.unusedVariables false
namespace Go.Ideal
open Go Go.Proofs
/-! ### Parity; bits put side by side -/
instance : CallIs Try.prog 77 := .of Try.func77 rfl rfl
end Go.Ideal

-- Ld
set_option linter.unusedSimpArgs false
set_option linter.unusedVariables false
namespace Go.Ideal
open Go Go.Proofs
theorem NeB.fresh {h h' : IHp} (hlt : h.fresh < h'.fresh) : NeB h.fresh h'.fresh := ⟨by unfold IHp.fresh at *; omega⟩
/-- a slice of one's own is a slice -/
theorem Lst.getSl {lo : Nat} {h : IHp} {a : Option Addr} {n m : Nat} {vs : List Value} {t : TypeId} (x : Lst lo h (.slice a n m) vs t) : SlIs h a n m vs := by
  obtain ⟨a', h1, h2⟩ := x.sl
  simp only [Value.slice.injEq] at h1
  obtain ⟨rfl, rfl, rfl⟩ := h1
  exact h2

instance : CallIs Try.prog 76 := .of Try.func76 rfl rfl
end Go.Ideal

-- Le
set_option linter.unusedSimpArgs false
set_option linter.unusedVariables false
namespace Go.Ideal
open Go Go.Proofs
theorem Lst.lower {lo lo' : Nat} {h : IHp} {v : Value} {vs : List Value} {t : TypeId} (x : Lst lo h v vs t) (hl : lo' ≤ lo) : Lst lo' h v vs t := by
  rcases x with ⟨h1, h2⟩ | ⟨b, h1, h2⟩
  · exact .inl ⟨h1, h2⟩
  · exact .inr ⟨b, by omega, h2⟩
instance : CallIs Try.prog 38 := .of Try.func38 rfl rfl
end Go.Ideal

-- Lf
set_option linter.unusedSimpArgs false
set_option linter.unusedVariables false
namespace Go.Ideal
open Go Go.Proofs
def xorK (f : Nat → Nat) : Nat → Nat
  | 0 => 0
  | k + 1 => xorK f k ^^^ f k
def mulRow (r : Nat) (ys : List Nat) (k : Nat) : Nat := xorK (fun j => if (r >>> j) &&& 1 = 1 then ys.getD j 0 else 0) k
theorem getD_lt {ys : List Nat} (h : ∀ x ∈ ys, x < 2 ^ 64) (j : Nat) : ys.getD j 0 < 2 ^ 64 := by
  rw [List.getD_eq_getElem?_getD]
  cases hj : ys[j]? with
  | none => decide
  | some x => exact h x (List.mem_of_getElem? hj)
instance : CallIs Try.prog 37 := .of Try.func37 rfl rfl
end Go.Ideal

-- Lg
set_option linter.unusedSimpArgs false
set_option linter.unusedVariables false
namespace Go.Ideal
open Go Go.Proofs
/-! ### OnesCount64, as it reckons -/
instance : CallIs Try.prog 111 := .of Try.func111 rfl rfl

instance : CallIs Try.prog 68 := .of Try.func68 rfl rfl
end Go.Ideal

-- Lh
set_option linter.unusedSimpArgs false
set_option linter.unusedVariables false
namespace Go.Ideal
open Go Go.Proofs
instance : CallIs Try.prog 74 := .of Try.func74 rfl rfl

/-! ### Elimination, as it goes -/
def swapRows (rows : List Nat) (i k : Nat) : List Nat := (rows.set i (rows.getD k 0)).set k (rows.getD i 0)
theorem swapRows_len (rows : List Nat) (i k : Nat) : (swapRows rows i k).length = rows.length := by simp [swapRows]
def All64 (rows : List Nat) : Prop := ∀ x ∈ rows, x < 2 ^ 64
theorem All64.set {rows : List Nat} (h : All64 rows) {i w : Nat} (hw : w < 2 ^ 64) : All64 (rows.set i w) := fun x hx => by
  rcases List.mem_or_eq_of_mem_set hx with h1 | h1
  · exact h x h1
  · omega
theorem All64.get {rows : List Nat} (h : All64 rows) (i : Nat) : rows.getD i 0 < 2 ^ 64 := getD_lt h i
theorem All64.swap {rows : List Nat} (h : All64 rows) (i k : Nat) : All64 (swapRows rows i k) := (h.set (h.get k)).set (h.get i)
theorem u64s_set (rows : List Nat) (i w : Nat) : u64s (rows.set i w) = (u64s rows).set i (.int .u64 w) := by simp [u64s, List.map_set]
theorem u64s_get {rows : List Nat} {i : Nat} (hi : i < rows.length) : (u64s rows)[i]? = some (.int .u64 (rows.getD i 0 : Nat)) := by
  simp [u64s, hi, List.getD_eq_getElem?_getD]
theorem cell_u64 {h : IHp} {b i : Nat} {rows : List Nat} {t : TypeId} {x : Bool} (o : ObjIs h b (u64s rows) t x) (hi : i < rows.length) : CellIs h b (0 + i * 1) (.int .u64 (rows.getD i 0 : Nat)) := cell_at o (u64s_get hi)
theorem set_u64 {rows : List Nat} {i : Nat} (w : Nat) (hi : i < rows.length) : SetIs (u64s rows) (0 + i * 1) [.int .u64 w] (u64s (rows.set i w)) := by
  rw [u64s_set]; exact set_at _ (by simpa [u64s] using hi)
end Go.Ideal

-- Li
set_option linter.unusedSimpArgs false
set_option linter.unusedVariables false
namespace Go.Ideal
open Go Go.Proofs
theorem swap_two {rows : List Nat} {i k : Nat} : (rows.set i (rows.getD k 0)).set k (rows.getD i 0) = swapRows rows i k := rfl
instance : CallIs Try.prog 36 := .of Try.func36 rfl rfl
end Go.Ideal

-- Lj
set_option linter.unusedSimpArgs false
set_option linter.unusedVariables false
namespace Go.Ideal
open Go Go.Proofs
/-- all but two blocks are as they were -/
structure Fr2 (b c : Nat) (h h' : IHp) : Prop where
  old : h'.old = h.old
  new : ∀ (i : Nat) (o : IObj), h.new[i]? = some o → 2 * i ≠ b → 2 * i ≠ c → h'.new[i]? = some o
theorem Fr2.refl (b c : Nat) (h : IHp) : Fr2 b c h h := ⟨rfl, fun _ _ h _ _ => h⟩
theorem Fr2.obj {b c : Nat} {h h' : IHp} (f : Fr2 b c h h') {x : Nat} {l : List Value} {t : TypeId} {e : Bool} (o : ObjIs h x l t e) (h1 : x ≠ b) (h2 : x ≠ c) : ObjIs h' x l t e :=
  ⟨o.even, f.new _ _ o.eq (by have := o.even; omega) (by have := o.even; omega)⟩
theorem Fr2.ext {b c : Nat} {h h' h0 : IHp} (f : Fr2 b c h h') (e : Ext h0 h) (l1 : h0.fresh ≤ b) (l2 : h0.fresh ≤ c) : Ext h0 h' := ⟨f.old.trans e.old, fun i o hi => by
  have := (List.getElem?_eq_some_iff.1 hi).1
  unfold IHp.fresh at l1 l2
  exact f.new i o (e.new i o hi) (by omega) (by omega)⟩
instance : CallIs Try.prog 78 := .of Try.func78 rfl rfl
end Go.Ideal

-- Lk
set_option linter.unusedSimpArgs false
set_option linter.unusedVariables false
namespace Go.Ideal
open Go Go.Proofs
theorem All64.replicate (n : Nat) : All64 (List.replicate n 0) := fun x hx => by rw [List.eq_of_mem_replicate hx]; decide
instance : CallIs Try.prog 40 := .of Try.func40 rfl rfl
end Go.Ideal

-- Ll
set_option linter.unusedSimpArgs false
set_option linter.unusedVariables false
namespace Go.Ideal
open Go Go.Proofs
theorem eyeS_lt {n : Int} (h : n ≤ 64) : All64 (eyeS n) := fun x hx => by
  simp only [eyeS, List.mem_map, List.mem_range] at hx
  obtain ⟨i, hi, rfl⟩ := hx
  exact Nat.pow_lt_pow_right (by decide) (by omega)
theorem eyeS_length (n : Int) : (eyeS n).length = n.toNat := by simp [eyeS]
instance : CallIs Try.prog 39 := .of Try.func39 rfl rfl
end Go.Ideal

-- Lm
set_option linter.unusedSimpArgs false
set_option linter.unusedVariables false
namespace Go.Ideal
open Go Go.Proofs
def addStep (rows : List Nat) (f t : Nat) : List Nat := rows.set t (rows.getD t 0 ^^^ rows.getD f 0)
theorem addStep_len (rows : List Nat) (f t : Nat) : (addStep rows f t).length = rows.length := by simp [addStep]
theorem All64.addStep {rows : List Nat} (h : All64 rows) (f t : Nat) : All64 (addStep rows f t) := h.set (Nat.xor_lt_two_pow (h.get t) (h.get f))
instance : CallIs Try.prog 112 := .of Try.func112 rfl rfl
end Go.Ideal

-- Ln
set_option linter.unusedSimpArgs false
set_option linter.unusedVariables false
namespace Go.Ideal
open Go Go.Proofs
instance : CallIs Try.prog 71 := .of Try.func71 rfl rfl
end Go.Ideal

-- Lo
set_option linter.unusedSimpArgs false
set_option linter.unusedVariables false
namespace Go.Ideal
open Go Go.Proofs
def StOk (n : Nat) (l : List (Nat × Nat)) : Prop := ∀ p ∈ l, p.1 < n ∧ p.2 < n
theorem StOk.add {n : Nat} {l : List (Nat × Nat)} (h : StOk n l) {a b : Nat} (ha : a < n) (hb : b < n) : StOk n (l ++ [(a, b)]) := fun p hp => by
  rcases List.mem_append.1 hp with h1 | h1
  · exact h p h1
  · simp at h1; subst h1; exact ⟨ha, hb⟩
instance : CallIs Try.prog 34 := .of Try.func34 rfl rfl
end Go.Ideal

-- Pa
set_option linter.unusedSimpArgs false
set_option linter.unusedVariables false
namespace Go.Ideal
open Go Go.Proofs
theorem getD_set (rows : List Nat) (i k w : Nat) (hi : i < rows.length) : (rows.set i w).getD k 0 = if k = i then w else rows.getD k 0 := by
  simp only [List.getD_eq_getElem?_getD, List.getElem?_set]
  by_cases h : i = k
  · subst h; simp [hi]
  · rw [if_neg h, if_neg (fun hh => h hh.symm)]
end Go.Ideal

-- Pb
set_option linter.unusedSimpArgs false
set_option linter.unusedVariables false
namespace Go.Ideal
open Go Go.Proofs
/-! ### Parities of bits -/
def xorB (f : Nat → Bool) : Nat → Bool
  | 0 => false
  | k + 1 => (xorB f k) ^^ (f k)
theorem xorB_congr {f g : Nat → Bool} : ∀ k, (∀ j, j < k → f j = g j) → xorB f k = xorB g k := by
  intro k
  induction k with
  | zero => intro _; rfl
  | succ k ih => intro h; simp only [xorB, ih fun j hj => h j (by omega), h k (by omega)]
theorem testBit_xorK (f : Nat → Nat) (b : Nat) : ∀ k, (xorK f k).testBit b = xorB (fun j => (f j).testBit b) k := by
  intro k
  induction k with
  | zero => simp [xorK, xorB]
  | succ k ih => simp only [xorK, xorB, Nat.testBit_xor, ih]
theorem bit_testBit (x k : Nat) : (x >>> k) &&& 1 = (x.testBit k).toNat := by
  rw [Nat.testBit_eq_decide_div_mod_eq, Nat.shiftRight_eq_div_pow, Nat.and_one_is_mod]
  rcases Nat.mod_two_eq_zero_or_one (x / 2 ^ k) with h | h <;> simp [h]
end Go.Ideal

-- Pc
set_option linter.unusedSimpArgs false
set_option linter.unusedVariables false
namespace Go.Ideal
open Go Go.Proofs
theorem mulRow_bits {r : Nat} {ys : List Nat} {n b : Nat} : (mulRow r ys n).testBit b = xorB (fun j => r.testBit j && (ys.getD j 0).testBit b) n := by
  rw [mulRow, testBit_xorK]
  refine xorB_congr n fun j _ => ?_
  rw [bit_testBit]
  cases r.testBit j
  · simp
  · simp
end Go.Ideal

-- Pd
set_option linter.unusedSimpArgs false
set_option linter.unusedVariables false
namespace Go.Ideal
open Go Go.Proofs
theorem xorB_xor (f g : Nat → Bool) : ∀ k, xorB (fun j => (f j) ^^ (g j)) k = ((xorB f k) ^^ (xorB g k)) := by
  intro k
  induction k with
  | zero => rfl
  | succ k ih =>
    simp only [xorB, ih]
    cases xorB f k <;> cases xorB g k <;> cases f k <;> cases g k <;> rfl
theorem mulRow_xor (a b : Nat) (X : List Nat) (n : Nat) : mulRow (a ^^^ b) X n = mulRow a X n ^^^ mulRow b X n := by
  apply Nat.eq_of_testBit_eq
  intro x
  rw [Nat.testBit_xor, mulRow_bits, mulRow_bits, mulRow_bits, ← xorB_xor]
  refine xorB_congr n fun j _ => ?_
  rw [Nat.testBit_xor]
  cases a.testBit j <;> cases b.testBit j <;> simp
theorem addStep_get {rows : List Nat} {f t : Nat} (ht : t < rows.length) (i : Nat) : (addStep rows f t).getD i 0 = if i = t then rows.getD t 0 ^^^ rows.getD f 0 else rows.getD i 0 := by
  rw [addStep, getD_set _ _ _ _ ht]
/-- cur = E X -/
def Rel (E X cur : List Nat) (n : Nat) : Prop := ∀ i, i < n → cur.getD i 0 = mulRow (E.getD i 0) X n
theorem Rel.add {E X cur : List Nat} {n f t : Nat} (h : Rel E X cur n) (hE : E.length = n) (hc : cur.length = n) (hf : f < n) (ht : t < n) : Rel (addStep E f t) X (addStep cur f t) n := fun i hi => by
  rw [addStep_get (by omega), addStep_get (by omega)]
  split
  · rw [mulRow_xor, ← h t ht, ← h f hf]
  · exact h i hi
end Go.Ideal

-- Pe
set_option linter.unusedSimpArgs false
set_option linter.unusedVariables false
namespace Go.Ideal
open Go Go.Proofs
end Go.Ideal

-- Pf
set_option linter.unusedSimpArgs false
set_option linter.unusedVariables false
namespace Go.Ideal
open Go Go.Proofs
def StNe (l : List (Nat × Nat)) : Prop := ∀ p ∈ l, p.1 ≠ p.2
theorem StNe.add {l : List (Nat × Nat)} (h : StNe l) {a b : Nat} (hab : a ≠ b) : StNe (l ++ [(a, b)]) := fun p hp => by
  rcases List.mem_append.1 hp with h1 | h1
  · exact h p h1
  · simp at h1; subst h1; exact hab
end Go.Ideal

-- Pg
set_option linter.unusedSimpArgs false
set_option linter.unusedVariables false
namespace Go.Ideal
open Go Go.Proofs
end Go.Ideal

-- Ph
set_option linter.unusedSimpArgs false
set_option linter.unusedVariables false
namespace Go.Ideal
open Go Go.Proofs
end Go.Ideal

-- Pi
set_option linter.unusedSimpArgs false
set_option linter.unusedVariables false
namespace Go.Ideal
open Go Go.Proofs
def dotB (n r v : Nat) : Bool := xorB (fun c => r.testBit c && v.testBit c) n
theorem dotB_xor (n a b v : Nat) : dotB n (a ^^^ b) v = ((dotB n a v) ^^ (dotB n b v)) := by
  unfold dotB
  rw [← xorB_xor]
  refine xorB_congr n fun c _ => ?_
  rw [Nat.testBit_xor]
  cases a.testBit c <;> cases b.testBit c <;> cases v.testBit c <;> rfl
/-- v is taken to nought by all rows -/
def Ker (R : List Nat) (v n : Nat) : Prop := ∀ i, i < n → dotB n (R.getD i 0) v = false
theorem Ker.add {X : List Nat} {v n f t : Nat} (hX : X.length = n) (hf : f < n) (ht : t < n) (h : Ker X v n) : Ker (addStep X f t) v n := fun i hi => by
  rw [addStep_get (by omega)]
  split
  · rw [dotB_xor, h t ht, h f hf]; rfl
  · exact h i hi
def GLt (R : List Nat) (n : Nat) : Prop := ∀ i, R.getD i 0 < 2 ^ n
theorem GLt.add {X : List Nat} {n f t : Nat} (h : GLt X n) (ht : t < X.length) : GLt (addStep X f t) n := fun i => by
  rw [addStep_get ht]
  split
  · exact Nat.xor_lt_two_pow (h t) (h f)
  · exact h i
end Go.Ideal

-- Pj
set_option linter.unusedSimpArgs false
set_option linter.unusedVariables false
namespace Go.Ideal
open Go Go.Proofs
/-! ### OnesCount64 counts: its last bit is the parity -/
def q1 (d : Nat) : Nat := (d / 2 &&& 85) + (d &&& 85)
def q2 (d : Nat) : Nat := (d / 4 &&& 51) + (d &&& 51)
end Go.Ideal

-- Lp
set_option linter.unusedSimpArgs false
set_option linter.unusedVariables false
namespace Go.Ideal
open Go Go.Proofs
/-! ### What the functions answer, as a matrix of plain numbers and an error -/
def MatV (h : IHp) (v : Value) (n : Int) (rows : List Nat) : Prop := ∃ a l c, v = .agg [.int .i64 n, .slice a l c].toArray ∧ SlIs h a l c (u64s rows) ∧ All64 rows
theorem MatV.ext {h h' : IHp} (e : Ext h h') {v : Value} {n : Int} {rows : List Nat} (m : MatV h v n rows) : MatV h' v n rows := by
  obtain ⟨a, l, c, h1, h2, h3⟩ := m
  exact ⟨a, l, c, h1, h2.ext e, h3⟩
theorem MatV.nil (h : IHp) : MatV h (.agg [.int .i64 0, .slice none 0 0].toArray) 0 [] := ⟨none, 0, 0, rfl, ⟨rfl, Nat.le_refl _, rfl⟩, fun x hx => by simp at hx⟩
theorem MatV.own {h : IHp} {sl : Value} {n : Int} {rows : List Nat} {lo : Nat} {t : TypeId} (o : Own lo h sl (u64s rows) t) (h64 : All64 rows) : MatV h (.agg [.int .i64 n, sl].toArray) n rows := by
  obtain ⟨a, rfl⟩ := o.isSlice
  exact ⟨a, _, _, rfl, o.getSl, h64⟩
/-- its slice lies in a block of its own that is not below lo -/
def NewM (lo : Nat) (m : Value) : Prop := ∀ x a l c, m = .agg [x, .slice (some a) l c].toArray → lo ≤ a.block ∧ a.block % 2 = 0
theorem NewM.nil {lo : Nat} {n : Int} : NewM lo (.agg [.int .i64 n, .slice none 0 0].toArray) := fun x a l c h => by simp at h
theorem NewM.own {lo : Nat} {h : IHp} {sl : Value} {n : Int} {vs : List Value} {t : TypeId} (o : Own lo h sl vs t) : NewM lo (.agg [.int .i64 n, sl].toArray) := fun x a l c hm => by
  simp only [Value.agg.injEq, List.toArray, Array.mk.injEq] at hm
  simp at hm
  obtain ⟨_, rfl⟩ := hm
  rcases o with ⟨h1, _⟩ | ⟨b, y, h1, h2, h3⟩
  · simp at h1
  · simp only [Value.slice.injEq, Option.some.injEq] at h2
    obtain ⟨rfl, _⟩ := h2
    exact ⟨h1, h3.even⟩
theorem row_put {h : IHp} {b b' n : Nat} {o : IObj} (hn : NeB b' b) : ∀ {off : Nat} {vs : List Value}, h.row b' off n = some vs → (h.putObj b o).row b' off n = some vs := by
  induction n with
  | zero => intro off vs hr; exact hr
  | succ n ih =>
    intro off vs hr
    simp only [IHp.row, Option.bind_eq_some_iff] at hr ⊢
    obtain ⟨v, hv, vs', hvs, h3⟩ := hr
    exact ⟨v, (CellIs.put_ne (n := hn) (i := ⟨hv⟩)).eq, vs', ih hvs, h3⟩
theorem SlIs.put {h : IHp} {a : Option Addr} {l c b : Nat} {vs : List Value} {o : IObj} (x : SlIs h a l c vs) (hn : ∀ d, a = some d → NeB d.block b) : SlIs (h.putObj b o) a l c vs := by
  obtain ⟨h1, h2, h3⟩ := x
  refine ⟨h1, h2, ?_⟩
  cases a with
  | none => exact h3
  | some d => exact row_put (hn d rfl) h3
theorem MatV.put {h : IHp} {b lo : Nat} {o : IObj} {m : Value} {n : Int} {rows : List Nat} (mv : MatV h m n rows) (nm : NewM lo m) (hb : b < lo) (he : b % 2 = 0) : MatV (h.putObj b o) m n rows := by
  obtain ⟨a, l, c, rfl, h2, h3⟩ := mv
  refine ⟨a, l, c, rfl, h2.put fun d hd => ?_, h3⟩
  subst hd
  obtain ⟨g1, g2⟩ := nm _ d l c rfl
  exact .of g2 he (by omega)
/-- an answer: a matrix and an error -/
def AnsM (lo : Nat) (h : IHp) (v : Value) (r : Int × List Nat × Int) : Prop := ∃ m, v = .tuple [m, .int .i64 r.2.2].toArray ∧ MatV h m r.1 r.2.1 ∧ NewM lo m
theorem Same_w {A B : Value} {M N : Int} {xs ys : List Nat} {h : IHp} (ha : MatV h A M xs) (hb : MatV h B N ys) (hl : xs.length < 2 ^ 62) : EvX Try.prog 31 [A, B].toArray h (fun v h' => v = .bool (decide (M = N ∧ xs = ys)) ∧ Ext h h') := by
  obtain ⟨a, la, ca, rfl, h1, h3⟩ := ha
  obtain ⟨b, lb, cb, rfl, h4, h6⟩ := hb
  exact Same_spec M N a b la ca lb cb xs ys h h1 h4 (by have := h1.1; rw [u64s_len] at this; omega)
theorem Same_t {A B : Value} {M : Int} {xs : List Nat} {h : IHp} (ha : MatV h A M xs) (hb : MatV h B M xs) (hl : xs.length < 2 ^ 62) : EvX Try.prog 31 [A, B].toArray h (fun v h' => v = .bool true ∧ Ext h h') := by
  refine (Same_w ha hb hl).mono ?_
  rintro v h' ⟨rfl, e⟩
  exact ⟨by simp, e⟩
end Go.Ideal

-- Al
set_option linter.unusedSimpArgs false
set_option linter.unusedVariables false
namespace Go.Ideal
open Go Go.Proofs
instance : CallIs Try.prog 28 := .of Try.func28 rfl rfl
end Go.Ideal

-- Lq
set_option linter.unusedSimpArgs false
set_option linter.unusedVariables false
namespace Go.Ideal
open Go Go.Proofs
end Go.Ideal

-- Br
set_option linter.unusedSimpArgs false
set_option linter.unusedVariables false
namespace Go.Ideal
open Go Go.Proofs Go.RowKit
theorem wf_u64 {i : Int} (h : (Lit.int .u64 i).wf = true) : ∃ x : Nat, i = x ∧ x < 2 ^ 64 := by
  have := bounds_u64 h
  exact ⟨i.toNat, by omega, by omega⟩
theorem row_of {h : IHp} {b : Nat} : ∀ (n off : Nat) (f : Nat → Value), (∀ i, i < n → h.cell? b (off + i) = some (f i)) → h.row b off n = some ((List.range n).map f) := by
  intro n
  induction n with
  | zero => intro off f _; rfl
  | succ n ih =>
    intro off f hf
    have h0 := hf 0 (by omega)
    have h1 := ih (off + 1) (fun i => f (i + 1)) (fun i hi => by rw [show off + 1 + i = off + (i + 1) by omega]; exact hf (i + 1) (by omega))
    rw [Nat.add_zero] at h0
    simp only [IHp.row, h0, Option.bind_some, h1, List.range_succ_eq_map, List.map_cons, List.map_map]
    rfl
theorem row_one {h : IHp} {b off : Nat} {v : Value} (hr : h.row b off 1 = some [v]) : h.cell? b off = some v := by
  simp only [IHp.row, Option.bind_eq_some_iff] at hr
  obtain ⟨u, hu, vs, hvs, h3⟩ := hr
  have := Option.some.inj h3
  simp at this
  rw [hu, this.1]
theorem law_of_EvX {P : Program} {f : Nat} {args args' : Array Value} {w : World} (hP : okProg P = true) (h : EvX P f args (heapOf w) (fun v _ => v = .bool true)) (ha : RA RM0 args args') :
    Calls P f args' w fun e w' => e = .returned (.bool true) ∧ Below w.heap.size w w' := by
  unfold EvX at h
  obtain ⟨v, h', ⟨n, h1⟩, rfl⟩ := h
  exact law_of_ideal hP h1 ha
end Go.Ideal
