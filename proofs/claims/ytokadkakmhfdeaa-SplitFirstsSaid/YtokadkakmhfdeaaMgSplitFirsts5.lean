/- What the proof of a statement of this seat rests on, part 5: PqC7, PqWL, PqTs, PqWM, PqDr, PqWN, PqX3, PqC8, PqC9, PqWO, PqWP, PqWQ, PqWR. -/
import Derived.Test.YtokadkakmhfdeaaMgSplitFirsts4
set_option linter.unusedVariables false
set_option linter.unusedSimpArgs false
set_option linter.unusedSectionVars false
namespace Go.Proofs.Ytokadkakmhfdeaa.Pq
open Go.RowKit
/- Functions in short form. -/
/-! parquetry/split.may (3 parameters; calls 63 parquetry/spec.Right, 89 parquetry/mesh.Right, 91 parquetry/tensor.Right) -/
def A87 : Ann := { drop := fun i => false }
noncomputable def c87 : Cc :=
  (.seq (.reg false [⟨some 3, (Op.box 40 (Operand.tmp 0)), none⟩,
    ⟨some 6, (Op.assign (Operand.const (Value.int IntKind.i64 0))), none⟩])
  (.seq (.block 0 (.seq (.reg false [⟨some 8, (Op.load 40 (Operand.tmp 3)), none⟩,
    ⟨some 9, (Op.call { callee := (Callee.value (Operand.func 91)), args := #[(Operand.tmp 8)], argTypes := #[40] }), none⟩,
    ⟨some 10, (Op.unOp UnOp.not 4 (Operand.tmp 9)), none⟩,
    ⟨some 7, (Op.assign (Operand.tmp 10)), none⟩])
  (.cond (Operand.tmp 7)
    (.seq (.reg false [⟨some 6, (Op.assign (Operand.const (Value.int IntKind.i64 13))), none⟩])
    .ret)
    (.seq (.reg false [⟨some 12, (Op.move (Operand.tmp 1)), none⟩,
      ⟨some 13, (Op.call { callee := (Callee.value (Operand.func 89)), args := #[(Operand.tmp 12)], argTypes := #[22] }), none⟩,
      ⟨some 14, (Op.unOp UnOp.not 4 (Operand.tmp 13)), none⟩,
      ⟨some 15, (Op.move (Operand.tmp 14)), none⟩,
      ⟨some 16, (Op.move (Operand.tmp 1)), some (15, false)⟩,
      ⟨some 17, (Op.move (Operand.tmp 2)), some (15, false)⟩,
      ⟨some 18, (Op.fieldAddr 40 (Operand.tmp 3) 0), some (15, false)⟩,
      ⟨some 19, (Op.load 22 (Operand.tmp 18)), some (15, false)⟩,
      ⟨some 20, (Op.call { callee := (Callee.builtin Builtin.len), args := #[(Operand.tmp 19)], argTypes := #[22] }), some (15, false)⟩,
      ⟨some 21, (Op.call { callee := (Callee.value (Operand.func 63)), args := #[(Operand.tmp 16), (Operand.tmp 17), (Operand.tmp 20)], argTypes := #[22, 22, 3] }), some (15, false)⟩,
      ⟨some 22, (Op.unOp UnOp.not 4 (Operand.tmp 21)), some (15, false)⟩,
      ⟨some 23, (Op.pick (Operand.tmp 15) (Operand.const (Value.bool true)) (Operand.tmp 22)), none⟩,
      ⟨some 11, (Op.assign (Operand.tmp 23)), none⟩])
    (.cond (Operand.tmp 11)
      (.seq (.reg false [⟨some 6, (Op.assign (Operand.const (Value.int IntKind.i64 1))), none⟩])
      .ret)
      .skip)))))
  (.seq (.reg false [⟨some 6, (Op.assign (Operand.const (Value.int IntKind.i64 0))), none⟩])
  .ret)))
noncomputable def b87 : Code := Try.f87.body.getD .skip
theorem hb87 : Try.f87.body = some b87 := by kernel_rfl
theorem sh87 : shortC A87 b87 = c87 := by kernel_rfl
theorem ok87 : (okSlots Try.f87.ntmps b87 && okRecs A87 b87) = true := by kernel_rfl
def rs87 : List ResultVar := [(ResultVar.tmp 6)]
theorem hr87 : Try.f87.results.toList = rs87 := by kernel_rfl
/-! parquetry/shape.Same (2 parameters; calls 129 slices.Equal[[]int,int]) -/
def A92 : Ann := { drop := fun i => false }
noncomputable def c92 : Cc :=
  (.seq (.reg false [⟨some 4, (Op.assign (Operand.const (Value.bool false))), none⟩])
  (.seq (.reg false [⟨some 5, (Op.move (Operand.tmp 0)), none⟩,
    ⟨some 6, (Op.move (Operand.tmp 1)), none⟩,
    ⟨some 7, (Op.call { callee := (Callee.value (Operand.func 129)), args := #[(Operand.tmp 5), (Operand.tmp 6)], argTypes := #[22, 22] }), none⟩,
    ⟨some 4, (Op.assign (Operand.tmp 7)), none⟩])
  .ret))
noncomputable def b92 : Code := Try.f92.body.getD .skip
theorem hb92 : Try.f92.body = some b92 := by kernel_rfl
theorem sh92 : shortC A92 b92 = c92 := by kernel_rfl
theorem ok92 : (okSlots Try.f92.ntmps b92 && okRecs A92 b92) = true := by kernel_rfl
def rs92 : List ResultVar := [(ResultVar.tmp 4)]
theorem hr92 : Try.f92.results.toList = rs92 := by kernel_rfl
/-! parquetry/tensor.Same (2 parameters; calls 92 parquetry/shape.Same, 137 slices.Equal[[]int64,int64]) -/
def A93 : Ann := { drop := fun i => false }
noncomputable def c93 : Cc :=
  (.seq (.reg false [⟨some 2, (Op.box 40 (Operand.tmp 0)), none⟩,
    ⟨some 3, (Op.box 40 (Operand.tmp 1)), none⟩,
    ⟨some 4, (Op.assign (Operand.const (Value.bool false))), none⟩])
  (.seq (.reg false [⟨some 5, (Op.fieldAddr 40 (Operand.tmp 2) 0), none⟩,
    ⟨some 6, (Op.load 22 (Operand.tmp 5)), none⟩,
    ⟨some 7, (Op.fieldAddr 40 (Operand.tmp 3) 0), none⟩,
    ⟨some 8, (Op.load 22 (Operand.tmp 7)), none⟩,
    ⟨some 9, (Op.call { callee := (Callee.value (Operand.func 92)), args := #[(Operand.tmp 6), (Operand.tmp 8)], argTypes := #[22, 22] }), none⟩,
    ⟨some 10, (Op.move (Operand.tmp 9)), none⟩,
    ⟨some 11, (Op.fieldAddr 40 (Operand.tmp 2) 1), some (10, true)⟩,
    ⟨some 12, (Op.load 38 (Operand.tmp 11)), some (10, true)⟩,
    ⟨some 13, (Op.fieldAddr 40 (Operand.tmp 3) 1), some (10, true)⟩,
    ⟨some 14, (Op.load 38 (Operand.tmp 13)), some (10, true)⟩,
    ⟨some 15, (Op.call { callee := (Callee.value (Operand.func 137)), args := #[(Operand.tmp 12), (Operand.tmp 14)], argTypes := #[38, 38] }), some (10, true)⟩,
    ⟨some 16, (Op.pick (Operand.tmp 10) (Operand.tmp 15) (Operand.const (Value.bool false))), none⟩,
    ⟨some 4, (Op.assign (Operand.tmp 16)), none⟩])
  .ret))
noncomputable def b93 : Code := Try.f93.body.getD .skip
theorem hb93 : Try.f93.body = some b93 := by kernel_rfl
theorem sh93 : shortC A93 b93 = c93 := by kernel_rfl
theorem ok93 : (okSlots Try.f93.ntmps b93 && okRecs A93 b93) = true := by kernel_rfl
def rs93 : List ResultVar := [(ResultVar.tmp 4)]
theorem hr93 : Try.f93.results.toList = rs93 := by kernel_rfl
/-! parquetry/shape.Index (2 parameters; calls 90 parquetry/shape.Right) -/
def A96 : Ann := { live := fun i => if i = 5 then [0, 5, 18, 19, 20] else [], drop := fun i => false }
noncomputable def c96 : Cc :=
  (.seq (.reg false [⟨some 4, (Op.assign (Operand.const (Value.int IntKind.i64 0))), none⟩])
  (.seq (.seq (.reg false [⟨some 8, (Op.move (Operand.tmp 0)), none⟩,
    ⟨some 9, (Op.call { callee := (Callee.value (Operand.func 90)), args := #[(Operand.tmp 8)], argTypes := #[22] }), none⟩,
    ⟨some 10, (Op.unOp UnOp.not 4 (Operand.tmp 9)), none⟩,
    ⟨some 11, (Op.move (Operand.tmp 10)), none⟩,
    ⟨some 12, (Op.move (Operand.tmp 1)), some (11, false)⟩,
    ⟨some 13, (Op.call { callee := (Callee.builtin Builtin.len), args := #[(Operand.tmp 12)], argTypes := #[22] }), some (11, false)⟩,
    ⟨some 14, (Op.move (Operand.tmp 0)), some (11, false)⟩,
    ⟨some 15, (Op.call { callee := (Callee.builtin Builtin.len), args := #[(Operand.tmp 14)], argTypes := #[22] }), some (11, false)⟩,
    ⟨some 16, (Op.binOp BinOp.neq 3 (Operand.tmp 13) (Operand.tmp 15) 3), some (11, false)⟩,
    ⟨some 17, (Op.pick (Operand.tmp 11) (Operand.const (Value.bool true)) (Operand.tmp 16)), none⟩])
  (.cond (Operand.tmp 17)
    (.seq (.reg false [⟨some 4, (Op.assign (Operand.const (Value.int IntKind.i64 (-1)))), none⟩])
    .ret)
    .skip))
  (.seq (.reg false [⟨some 5, (Op.assign (Operand.const (Value.int IntKind.i64 0))), none⟩])
  (.seq (.seq (.reg false [⟨some 18, (Op.move (Operand.tmp 1)), none⟩,
    ⟨some 19, (Op.call { callee := (Callee.builtin Builtin.len), args := #[(Operand.tmp 18)], argTypes := #[22] }), none⟩,
    ⟨some 20, (Op.move (Operand.const (Value.int IntKind.i64 0))), none⟩])
  (.block 0 (.loop [0, 5, 18, 19, 20] false
    (.seq (.reg false [⟨some 21, (Op.binOp BinOp.lss 3 (Operand.tmp 20) (Operand.tmp 19) 3), none⟩])
    (.seq (.cond (Operand.tmp 21)
      .skip
      (.exit 0))
    (.seq (.block 1 (.seq (.reg false [⟨some 22, (Op.move (Operand.tmp 20)), none⟩,
      ⟨some 23, (Op.indexAddr 22 (Operand.tmp 18) (Operand.tmp 20)), none⟩,
      ⟨some 24, (Op.load 3 (Operand.tmp 23)), none⟩,
      ⟨some 6, (Op.assign (Operand.tmp 22)), none⟩,
      ⟨some 7, (Op.assign (Operand.tmp 24)), none⟩])
    (.seq (.seq (.reg false [⟨some 25, (Op.move (Operand.tmp 7)), none⟩,
      ⟨some 26, (Op.binOp BinOp.lss 3 (Operand.tmp 25) (Operand.const (Value.int IntKind.i64 0)) 3), none⟩,
      ⟨some 27, (Op.move (Operand.tmp 26)), none⟩,
      ⟨some 28, (Op.move (Operand.tmp 7)), some (27, false)⟩,
      ⟨some 29, (Op.move (Operand.tmp 0)), some (27, false)⟩,
      ⟨some 30, (Op.move (Operand.tmp 6)), some (27, false)⟩,
      ⟨some 31, (Op.indexAddr 22 (Operand.tmp 29) (Operand.tmp 30)), some (27, false)⟩,
      ⟨some 32, (Op.load 3 (Operand.tmp 31)), some (27, false)⟩,
      ⟨some 33, (Op.binOp BinOp.geq 3 (Operand.tmp 28) (Operand.tmp 32) 3), some (27, false)⟩,
      ⟨some 34, (Op.pick (Operand.tmp 27) (Operand.const (Value.bool true)) (Operand.tmp 33)), none⟩])
    (.cond (Operand.tmp 34)
      (.seq (.reg false [⟨some 4, (Op.assign (Operand.const (Value.int IntKind.i64 (-1)))), none⟩])
      .ret)
      .skip))
    (.reg false [⟨some 35, (Op.move (Operand.tmp 5)), none⟩,
      ⟨some 36, (Op.move (Operand.tmp 0)), none⟩,
      ⟨some 37, (Op.move (Operand.tmp 6)), none⟩,
      ⟨some 38, (Op.indexAddr 22 (Operand.tmp 36) (Operand.tmp 37)), none⟩,
      ⟨some 39, (Op.load 3 (Operand.tmp 38)), none⟩,
      ⟨some 40, (Op.binOp BinOp.mul 3 (Operand.tmp 35) (Operand.tmp 39) 3), none⟩,
      ⟨some 41, (Op.move (Operand.tmp 7)), none⟩,
      ⟨some 42, (Op.binOp BinOp.add 3 (Operand.tmp 40) (Operand.tmp 41) 3), none⟩,
      ⟨some 5, (Op.assign (Operand.tmp 42)), none⟩]))))
    (.reg false [⟨some 43, (Op.binOp BinOp.add 3 (Operand.tmp 20) (Operand.const (Value.int IntKind.i64 1)) 3), none⟩,
      ⟨some 20, (Op.move (Operand.tmp 43)), none⟩])))))))
  (.seq (.reg false [⟨some 44, (Op.move (Operand.tmp 5)), none⟩,
    ⟨some 4, (Op.assign (Operand.tmp 44)), none⟩])
  .ret)))))
noncomputable def b96 : Code := Try.f96.body.getD .skip
theorem hb96 : Try.f96.body = some b96 := by kernel_rfl
theorem sh96 : shortC A96 b96 = c96 := by kernel_rfl
theorem ok96 : (okSlots Try.f96.ntmps b96 && okRecs A96 b96) = true := by kernel_rfl
def rs96 : List ResultVar := [(ResultVar.tmp 4)]
theorem hr96 : Try.f96.results.toList = rs96 := by kernel_rfl
/-! parquetry/parquetryref1.Ints (2 parameters; calls none) -/
def A97 : Ann := { live := fun i => if i = 4 then [0, 1, 5] else [], drop := fun i => false }
noncomputable def c97 : Cc :=
  (.seq (.reg false [⟨some 4, (Op.assign (Operand.const (Value.bool false))), none⟩])
  (.seq (.seq (.reg false [⟨some 6, (Op.move (Operand.tmp 0)), none⟩,
    ⟨some 7, (Op.call { callee := (Callee.builtin Builtin.len), args := #[(Operand.tmp 6)], argTypes := #[22] }), none⟩,
    ⟨some 8, (Op.move (Operand.tmp 1)), none⟩,
    ⟨some 9, (Op.call { callee := (Callee.builtin Builtin.len), args := #[(Operand.tmp 8)], argTypes := #[22] }), none⟩,
    ⟨some 10, (Op.binOp BinOp.neq 3 (Operand.tmp 7) (Operand.tmp 9) 3), none⟩])
  (.cond (Operand.tmp 10)
    (.seq (.reg false [⟨some 4, (Op.assign (Operand.const (Value.bool false))), none⟩])
    .ret)
    .skip))
  (.seq (.seq (.reg false [⟨some 5, (Op.assign (Operand.const (Value.int IntKind.i64 0))), none⟩])
  (.block 0 (.loop [0, 1, 5] false
    (.seq (.seq (.reg false [⟨some 11, (Op.move (Operand.tmp 5)), none⟩,
      ⟨some 12, (Op.move (Operand.tmp 0)), none⟩,
      ⟨some 13, (Op.call { callee := (Callee.builtin Builtin.len), args := #[(Operand.tmp 12)], argTypes := #[22] }), none⟩,
      ⟨some 14, (Op.binOp BinOp.lss 3 (Operand.tmp 11) (Operand.tmp 13) 3), none⟩])
    (.cond (Operand.tmp 14)
      .skip
      (.exit 0)))
    (.seq (.block 1 (.seq (.reg false [⟨some 17, (Op.move (Operand.tmp 0)), none⟩,
      ⟨some 18, (Op.move (Operand.tmp 5)), none⟩,
      ⟨some 19, (Op.indexAddr 22 (Operand.tmp 17) (Operand.tmp 18)), none⟩,
      ⟨some 20, (Op.load 3 (Operand.tmp 19)), none⟩,
      ⟨some 21, (Op.move (Operand.tmp 1)), none⟩,
      ⟨some 22, (Op.move (Operand.tmp 5)), none⟩,
      ⟨some 23, (Op.indexAddr 22 (Operand.tmp 21) (Operand.tmp 22)), none⟩,
      ⟨some 24, (Op.load 3 (Operand.tmp 23)), none⟩,
      ⟨some 25, (Op.binOp BinOp.neq 3 (Operand.tmp 20) (Operand.tmp 24) 3), none⟩])
    (.cond (Operand.tmp 25)
      (.seq (.reg false [⟨some 4, (Op.assign (Operand.const (Value.bool false))), none⟩])
      .ret)
      .skip)))
    (.reg false [⟨some 15, (Op.move (Operand.tmp 5)), none⟩,
      ⟨some 16, (Op.binOp BinOp.add 3 (Operand.tmp 15) (Operand.const (Value.int IntKind.i64 1)) 3), none⟩,
      ⟨some 5, (Op.assign (Operand.tmp 16)), none⟩]))))))
  (.seq (.reg false [⟨some 4, (Op.assign (Operand.const (Value.bool true))), none⟩])
  .ret))))
noncomputable def b97 : Code := Try.f97.body.getD .skip
theorem hb97 : Try.f97.body = some b97 := by kernel_rfl
theorem sh97 : shortC A97 b97 = c97 := by kernel_rfl
theorem ok97 : (okSlots Try.f97.ntmps b97 && okRecs A97 b97) = true := by kernel_rfl
def rs97 : List ResultVar := [(ResultVar.tmp 4)]
theorem hr97 : Try.f97.results.toList = rs97 := by kernel_rfl
/-! parquetry/parquetryref1.Same (2 parameters; calls 97 parquetry/parquetryref1.Ints) -/
def A39 : Ann := { live := fun i => if i = 4 then [2, 3, 5] else [], drop := fun i => false }
noncomputable def c39 : Cc :=
  (.seq (.reg false [⟨some 2, (Op.box 40 (Operand.tmp 0)), none⟩,
    ⟨some 3, (Op.box 40 (Operand.tmp 1)), none⟩,
    ⟨some 4, (Op.assign (Operand.const (Value.bool false))), none⟩])
  (.seq (.seq (.reg false [⟨some 6, (Op.fieldAddr 40 (Operand.tmp 2) 0), none⟩,
    ⟨some 7, (Op.load 22 (Operand.tmp 6)), none⟩,
    ⟨some 8, (Op.fieldAddr 40 (Operand.tmp 3) 0), none⟩,
    ⟨some 9, (Op.load 22 (Operand.tmp 8)), none⟩,
    ⟨some 10, (Op.call { callee := (Callee.value (Operand.func 97)), args := #[(Operand.tmp 7), (Operand.tmp 9)], argTypes := #[22, 22] }), none⟩,
    ⟨some 11, (Op.unOp UnOp.not 4 (Operand.tmp 10)), none⟩,
    ⟨some 12, (Op.move (Operand.tmp 11)), none⟩,
    ⟨some 13, (Op.fieldAddr 40 (Operand.tmp 2) 1), some (12, false)⟩,
    ⟨some 14, (Op.load 38 (Operand.tmp 13)), some (12, false)⟩,
    ⟨some 15, (Op.call { callee := (Callee.builtin Builtin.len), args := #[(Operand.tmp 14)], argTypes := #[38] }), some (12, false)⟩,
    ⟨some 16, (Op.fieldAddr 40 (Operand.tmp 3) 1), some (12, false)⟩,
    ⟨some 17, (Op.load 38 (Operand.tmp 16)), some (12, false)⟩,
    ⟨some 18, (Op.call { callee := (Callee.builtin Builtin.len), args := #[(Operand.tmp 17)], argTypes := #[38] }), some (12, false)⟩,
    ⟨some 19, (Op.binOp BinOp.neq 3 (Operand.tmp 15) (Operand.tmp 18) 3), some (12, false)⟩,
    ⟨some 20, (Op.pick (Operand.tmp 12) (Operand.const (Value.bool true)) (Operand.tmp 19)), none⟩])
  (.cond (Operand.tmp 20)
    (.seq (.reg false [⟨some 4, (Op.assign (Operand.const (Value.bool false))), none⟩])
    .ret)
    .skip))
  (.seq (.seq (.reg false [⟨some 5, (Op.assign (Operand.const (Value.int IntKind.i64 0))), none⟩])
  (.block 0 (.loop [2, 3, 5] false
    (.seq (.seq (.reg false [⟨some 21, (Op.move (Operand.tmp 5)), none⟩,
      ⟨some 22, (Op.fieldAddr 40 (Operand.tmp 2) 1), none⟩,
      ⟨some 23, (Op.load 38 (Operand.tmp 22)), none⟩,
      ⟨some 24, (Op.call { callee := (Callee.builtin Builtin.len), args := #[(Operand.tmp 23)], argTypes := #[38] }), none⟩,
      ⟨some 25, (Op.binOp BinOp.lss 3 (Operand.tmp 21) (Operand.tmp 24) 3), none⟩])
    (.cond (Operand.tmp 25)
      .skip
      (.exit 0)))
    (.seq (.block 1 (.seq (.reg false [⟨some 28, (Op.fieldAddr 40 (Operand.tmp 2) 1), none⟩,
      ⟨some 29, (Op.load 38 (Operand.tmp 28)), none⟩,
      ⟨some 30, (Op.move (Operand.tmp 5)), none⟩,
      ⟨some 31, (Op.indexAddr 38 (Operand.tmp 29) (Operand.tmp 30)), none⟩,
      ⟨some 32, (Op.load 2 (Operand.tmp 31)), none⟩,
      ⟨some 33, (Op.fieldAddr 40 (Operand.tmp 3) 1), none⟩,
      ⟨some 34, (Op.load 38 (Operand.tmp 33)), none⟩,
      ⟨some 35, (Op.move (Operand.tmp 5)), none⟩,
      ⟨some 36, (Op.indexAddr 38 (Operand.tmp 34) (Operand.tmp 35)), none⟩,
      ⟨some 37, (Op.load 2 (Operand.tmp 36)), none⟩,
      ⟨some 38, (Op.binOp BinOp.neq 2 (Operand.tmp 32) (Operand.tmp 37) 2), none⟩])
    (.cond (Operand.tmp 38)
      (.seq (.reg false [⟨some 4, (Op.assign (Operand.const (Value.bool false))), none⟩])
      .ret)
      .skip)))
    (.reg false [⟨some 26, (Op.move (Operand.tmp 5)), none⟩,
      ⟨some 27, (Op.binOp BinOp.add 3 (Operand.tmp 26) (Operand.const (Value.int IntKind.i64 1)) 3), none⟩,
      ⟨some 5, (Op.assign (Operand.tmp 27)), none⟩]))))))
  (.seq (.reg false [⟨some 4, (Op.assign (Operand.const (Value.bool true))), none⟩])
  .ret))))
noncomputable def b39 : Code := Try.f39.body.getD .skip
theorem hb39 : Try.f39.body = some b39 := by kernel_rfl
theorem sh39 : shortC A39 b39 = c39 := by kernel_rfl
theorem ok39 : (okSlots Try.f39.ntmps b39 && okRecs A39 b39) = true := by kernel_rfl
def rs39 : List ResultVar := [(ResultVar.tmp 4)]
theorem hr39 : Try.f39.results.toList = rs39 := by kernel_rfl
/-! slices.Equal[[]int64,int64] (2 parameters; calls none) -/
def A137 : Ann := { live := fun i => if i = 4 then [0, 1, 12, 13] else [], drop := fun i => false }
noncomputable def c137 : Cc :=
  (.seq (.reg false [⟨some 4, (Op.assign (Operand.const (Value.bool false))), none⟩])
  (.seq (.seq (.reg false [⟨some 6, (Op.move (Operand.tmp 0)), none⟩,
    ⟨some 7, (Op.call { callee := (Callee.builtin Builtin.len), args := #[(Operand.tmp 6)], argTypes := #[38] }), none⟩,
    ⟨some 8, (Op.move (Operand.tmp 1)), none⟩,
    ⟨some 9, (Op.call { callee := (Callee.builtin Builtin.len), args := #[(Operand.tmp 8)], argTypes := #[38] }), none⟩,
    ⟨some 10, (Op.binOp BinOp.neq 3 (Operand.tmp 7) (Operand.tmp 9) 3), none⟩])
  (.cond (Operand.tmp 10)
    (.seq (.reg false [⟨some 4, (Op.assign (Operand.const (Value.bool false))), none⟩])
    .ret)
    .skip))
  (.seq (.seq (.reg false [⟨some 11, (Op.move (Operand.tmp 0)), none⟩,
    ⟨some 12, (Op.call { callee := (Callee.builtin Builtin.len), args := #[(Operand.tmp 11)], argTypes := #[38] }), none⟩,
    ⟨some 13, (Op.move (Operand.const (Value.int IntKind.i64 0))), none⟩])
  (.block 0 (.loop [0, 1, 12, 13] false
    (.seq (.reg false [⟨some 14, (Op.binOp BinOp.lss 3 (Operand.tmp 13) (Operand.tmp 12) 3), none⟩])
    (.seq (.cond (Operand.tmp 14)
      .skip
      (.exit 0))
    (.seq (.block 1 (.seq (.reg false [⟨some 15, (Op.move (Operand.tmp 13)), none⟩,
      ⟨some 5, (Op.assign (Operand.tmp 15)), none⟩])
    (.seq (.reg false [⟨some 16, (Op.move (Operand.tmp 0)), none⟩,
      ⟨some 17, (Op.move (Operand.tmp 5)), none⟩,
      ⟨some 18, (Op.indexAddr 38 (Operand.tmp 16) (Operand.tmp 17)), none⟩,
      ⟨some 19, (Op.load 2 (Operand.tmp 18)), none⟩,
      ⟨some 20, (Op.move (Operand.tmp 1)), none⟩,
      ⟨some 21, (Op.move (Operand.tmp 5)), none⟩,
      ⟨some 22, (Op.indexAddr 38 (Operand.tmp 20) (Operand.tmp 21)), none⟩,
      ⟨some 23, (Op.load 2 (Operand.tmp 22)), none⟩,
      ⟨some 24, (Op.binOp BinOp.neq 2 (Operand.tmp 19) (Operand.tmp 23) 2), none⟩])
    (.cond (Operand.tmp 24)
      (.seq (.reg false [⟨some 4, (Op.assign (Operand.const (Value.bool false))), none⟩])
      .ret)
      .skip))))
    (.reg false [⟨some 25, (Op.binOp BinOp.add 3 (Operand.tmp 13) (Operand.const (Value.int IntKind.i64 1)) 3), none⟩,
      ⟨some 13, (Op.move (Operand.tmp 25)), none⟩])))))))
  (.seq (.reg false [⟨some 4, (Op.assign (Operand.const (Value.bool true))), none⟩])
  .ret))))
noncomputable def b137 : Code := Try.f137.body.getD .skip
theorem hb137 : Try.f137.body = some b137 := by kernel_rfl
theorem sh137 : shortC A137 b137 = c137 := by kernel_rfl
theorem ok137 : (okSlots Try.f137.ntmps b137 && okRecs A137 b137) = true := by kernel_rfl
def rs137 : List ResultVar := [(ResultVar.tmp 4)]
theorem hr137 : Try.f137.results.toList = rs137 := by kernel_rfl
/- Walks: what reads shapes and tensors. -/
theorem alen38 (v : AV) : alen T 38 v = alenS v := by simp [alen, D38]
theorem aidx38 (v i : AV) : aidx T 38 v i = aidxS 1 v i := by simp [aidx, D38, T2]
def F97 (args : List AV) (H : Hp) : Option AV := match args with
  | [a, b] => (ints H a).bind fun l => (ints H b).map fun m => .bool (sameL l m)
  | _ => none
theorem snd97 : Sound Try.prog 97 (FSem.pure F97).run := by
  refine sound_of hT (EOK_nil _) mixed A97 Try.func97 hb97 (by kernel_rfl) (by kernel_rfl) (by kernel_rfl) (by kernel_rfl) sh97 2 (by kernel_rfl) rs97 hr97 ?_
  intro args H r H' hw h
  obtain ⟨rfl, hv⟩ := pureAt h
  clear h
  unfold F97 at hv
  split at hv
  · rename_i v u
    obtain ⟨l, hl, hv⟩ := Option.bind_eq_some_iff.1 hv
    obtain ⟨q, hq, hv⟩ := Option.map_eq_some_iff.1 hv
    cases hv
    have hlen := alenS_ints hl
    have hlen2 := alenS_ints hq
    have hb := ints_len hl
    have hix := aidxS_ints hl .i64
    have hld := aload_nth T3 rfl hl
    have hix2 := aidxS_ints hq .i64
    have hld2 := aload_nth T3 rfl hq
    refine ⟨rfl, go ?_⟩
    unfold c97
    simp only [argSl]
    simp only [← aidx22, ← alen22] at hix hlen hix2 hlen2
    repeat' (first | apply goSeq | apply goReg | apply goSeqN | apply goSeqR | apply goSkip | apply goRet | apply goNil | apply goBlock | apply goExit | apply goBlkN | apply goBlkR | apply goBlkE | apply goSeqE | apply goLoopR | apply goLoopE | (apply goOp; (· (simp [*]; try exact rfl)); (· exact rfl)) | (apply goOp0; (· (simp [*]; try exact rfl)); (· exact rfl)) | (apply goYes; (· (simp [*]; done)); (· (simp [*]; try exact rfl)); (· exact rfl)) | (apply goNo; (· (simp [*]; done))) | (apply goNoU; (· (simp; exact rfl))) | (apply goIfT; (· (simp [*]; done))) | (apply goIfF; (· (simp [*]; done))) | (apply goIf; (· (simp; exact rfl)); (· with_reducible exact rfl)) | (apply goSplit; (· (simp; exact rfl)); (· with_reducible exact rfl)) | (apply goIfQ; (· (simp; exact rfl)); (· exact rfl)) | (apply goSplitQ; (· (simp; exact rfl)); (· exact rfl)) | (apply goBlkX; (· rfl)) | intro _)
    · rename_i hne
      refine goEnd hw (Pre.refl _) (by simp) (by simp [rs97]; exact rfl) rfl ?_
      have : ¬ l.length = q.length := by simp at hne; omega
      simp [sameL, this]
    · rename_i hne
      have hll : l.length = q.length := by simp at hne; omega
      have hll' : (q.length : Int) = l.length := by omega
      have hres : sameL l q = sameGo l q := by simp [sameL, hll]
      rw [hres]
      clear hne hv hres hlen2
      refine goLoop (fun m s1 H1 => H1 = H' ∧ ∃ (i : Nat), m = l.length - i ∧ i ≤ l.length ∧ get s1 0 = v ∧ get s1 1 = u ∧ get s1 5 = .int .i64 i ∧ sameGo (l.drop i) (q.drop i) = sameGo l q) l.length ?_ ?_
      · exact ⟨rfl, 0, rfl, Nat.zero_le _, rfl, rfl, rfl, by simp⟩
      · rintro m s1 H1 ⟨rfl, i, hm, hi, g3, g9, g10, hgo⟩
        simp only [cut_cons, cut_nil, g3, g9, g10]
        have hi0 : (0 : Int) ≤ i := Int.natCast_nonneg i
        have hd := fun h => drop_nth l i h
        have hnil : ¬ i < l.length → l.drop i = [] := fun h => List.drop_of_length_le (by omega)
        have hw1 : w ((i : Int) + 1) = ((i + 1 : Nat) : Int) := w_id (by omega)
        clear g3 g9 g10
        rw [hll'] at hix2 hld2
        replace hgo := Hide.mk hgo
        clear hll hll'
        repeat' (first | apply goSeq | apply goReg | apply goSeqN | apply goSeqR | apply goSkip | apply goRet | apply goNil | apply goBlock | apply goExit | apply goBlkN | apply goBlkR | apply goBlkE | apply goSeqE | apply goLoopR | apply goLoopE | (apply goOp; (· (simp [*]; try exact rfl)); (· exact rfl)) | (apply goOp0; (· (simp [*]; try exact rfl)); (· exact rfl)) | (apply goYes; (· (simp [*]; done)); (· (simp [*]; try exact rfl)); (· exact rfl)) | (apply goNo; (· (simp [*]; done))) | (apply goNoU; (· (simp; exact rfl))) | (apply goIfT; (· (simp [*]; done))) | (apply goIfF; (· (simp [*]; done))) | (apply goIf; (· (simp; exact rfl)); (· with_reducible exact rfl)) | (apply goSplit; (· (simp; exact rfl)); (· with_reducible exact rfl)) | (apply goIfQ; (· (simp; exact rfl)); (· exact rfl)) | (apply goSplitQ; (· (simp; exact rfl)); (· exact rfl)) | (apply goBlkX; (· rfl)) | intro _)
        all_goals replace hgo := hgo.out
        all_goals (try simp only [Bool.not_eq_true', decide_eq_false_iff_not, Bool.not_eq_false', decide_eq_true_eq] at *)
        all_goals first
          | (refine goEnd hw (Pre.refl _) (by simp) (by simp [rs97]; exact rfl) rfl ?_; rw [← hgo]; simp [sameGo, nth_drop, hd, hnil, *]; done)
          | (refine goLoopN (l.length - (i + 1)) (by omega) ⟨rfl, i + 1, rfl, by omega, rfl, rfl, rfl, ?_⟩; rw [← hgo]; simp [sameGo, nth_drop, hd, *])
  · cases hv
@[simp] theorem F97_at (a b : AV) (H : Hp) : F97 [a, b] H = (ints H a).bind fun l => (ints H b).map fun m => .bool (sameL l m) := rfl
def F137 (args : List AV) (H : Hp) : Option AV := match args with
  | [a, b] => (ints H a).bind fun l => (ints H b).map fun m => .bool (sameL l m)
  | _ => none
theorem snd137 : Sound Try.prog 137 (FSem.pure F137).run := by
  refine sound_of hT (EOK_nil _) mixed A137 Try.func137 hb137 (by kernel_rfl) (by kernel_rfl) (by kernel_rfl) (by kernel_rfl) sh137 2 (by kernel_rfl) rs137 hr137 ?_
  intro args H r H' hw h
  obtain ⟨rfl, hv⟩ := pureAt h
  clear h
  unfold F137 at hv
  split at hv
  · rename_i v u
    obtain ⟨l, hl, hv⟩ := Option.bind_eq_some_iff.1 hv
    obtain ⟨q, hq, hv⟩ := Option.map_eq_some_iff.1 hv
    cases hv
    have hlen := alenS_ints hl
    have hlen2 := alenS_ints hq
    have hb := ints_len hl
    have hix := aidxS_ints hl .i64
    have hld := aload_nth T2 rfl hl
    have hix2 := aidxS_ints hq .i64
    have hld2 := aload_nth T2 rfl hq
    refine ⟨rfl, go ?_⟩
    unfold c137
    simp only [argSl]
    simp only [← aidx38, ← alen38] at hix hlen hix2 hlen2
    repeat' (first | apply goSeq | apply goReg | apply goSeqN | apply goSeqR | apply goSkip | apply goRet | apply goNil | apply goBlock | apply goExit | apply goBlkN | apply goBlkR | apply goBlkE | apply goSeqE | apply goLoopR | apply goLoopE | (apply goOp; (· (simp [*]; try exact rfl)); (· exact rfl)) | (apply goOp0; (· (simp [*]; try exact rfl)); (· exact rfl)) | (apply goYes; (· (simp [*]; done)); (· (simp [*]; try exact rfl)); (· exact rfl)) | (apply goNo; (· (simp [*]; done))) | (apply goNoU; (· (simp; exact rfl))) | (apply goIfT; (· (simp [*]; done))) | (apply goIfF; (· (simp [*]; done))) | (apply goIf; (· (simp; exact rfl)); (· with_reducible exact rfl)) | (apply goSplit; (· (simp; exact rfl)); (· with_reducible exact rfl)) | (apply goIfQ; (· (simp; exact rfl)); (· exact rfl)) | (apply goSplitQ; (· (simp; exact rfl)); (· exact rfl)) | (apply goBlkX; (· rfl)) | intro _)
    · rename_i hne
      refine goEnd hw (Pre.refl _) (by simp) (by simp [rs137]; exact rfl) rfl ?_
      have : ¬ l.length = q.length := by simp at hne; omega
      simp [sameL, this]
    · rename_i hne
      have hll : l.length = q.length := by simp at hne; omega
      have hll' : (q.length : Int) = l.length := by omega
      have hres : sameL l q = sameGo l q := by simp [sameL, hll]
      rw [hres]
      clear hne hv hres hlen2
      refine goLoop (fun m s1 H1 => H1 = H' ∧ ∃ (i : Nat), m = l.length - i ∧ i ≤ l.length ∧ get s1 0 = v ∧ get s1 1 = u ∧ get s1 12 = .int .i64 l.length ∧ get s1 13 = .int .i64 i ∧ sameGo (l.drop i) (q.drop i) = sameGo l q) l.length ?_ ?_
      · exact ⟨rfl, 0, rfl, Nat.zero_le _, rfl, rfl, rfl, rfl, by simp⟩
      · rintro m s1 H1 ⟨rfl, i, hm, hi, g3, g9, g10, g11, hgo⟩
        simp only [cut_cons, cut_nil, g3, g9, g10, g11]
        have hi0 : (0 : Int) ≤ i := Int.natCast_nonneg i
        have hd := fun h => drop_nth l i h
        have hnil : ¬ i < l.length → l.drop i = [] := fun h => List.drop_of_length_le (by omega)
        have hw1 : w ((i : Int) + 1) = ((i + 1 : Nat) : Int) := w_id (by omega)
        clear g3 g9 g10 g11
        rw [hll'] at hix2 hld2
        replace hgo := Hide.mk hgo
        clear hll hll'
        repeat' (first | apply goSeq | apply goReg | apply goSeqN | apply goSeqR | apply goSkip | apply goRet | apply goNil | apply goBlock | apply goExit | apply goBlkN | apply goBlkR | apply goBlkE | apply goSeqE | apply goLoopR | apply goLoopE | (apply goOp; (· (simp [*]; try exact rfl)); (· exact rfl)) | (apply goOp0; (· (simp [*]; try exact rfl)); (· exact rfl)) | (apply goYes; (· (simp [*]; done)); (· (simp [*]; try exact rfl)); (· exact rfl)) | (apply goNo; (· (simp [*]; done))) | (apply goNoU; (· (simp; exact rfl))) | (apply goIfT; (· (simp [*]; done))) | (apply goIfF; (· (simp [*]; done))) | (apply goIf; (· (simp; exact rfl)); (· with_reducible exact rfl)) | (apply goSplit; (· (simp; exact rfl)); (· with_reducible exact rfl)) | (apply goIfQ; (· (simp; exact rfl)); (· exact rfl)) | (apply goSplitQ; (· (simp; exact rfl)); (· exact rfl)) | (apply goBlkX; (· rfl)) | intro _)
        all_goals replace hgo := hgo.out
        all_goals (try simp only [Bool.not_eq_true', decide_eq_false_iff_not, Bool.not_eq_false', decide_eq_true_eq] at *)
        all_goals first
          | (refine goEnd hw (Pre.refl _) (by simp) (by simp [rs137]; exact rfl) rfl ?_; rw [← hgo]; simp [sameGo, nth_drop, hd, hnil, *]; done)
          | (refine goLoopN (l.length - (i + 1)) (by omega) ⟨rfl, i + 1, rfl, by omega, rfl, rfl, rfl, rfl, ?_⟩; rw [← hgo]; simp [sameGo, nth_drop, hd, *])
  · cases hv
@[simp] theorem F137_at (a b : AV) (H : Hp) : F137 [a, b] H = (ints H a).bind fun l => (ints H b).map fun m => .bool (sameL l m) := rfl
def F92 (args : List AV) (H : Hp) : Option AV := match args with
  | [a, b] => (ints H a).bind fun l => (ints H b).map fun m => .bool (sameL l m)
  | _ => none
theorem snd92 : Sound Try.prog 92 (FSem.pure F92).run := by
  refine sound_of hT (EOK_cons snd129 (EOK_nil _)) mixed A92 Try.func92 hb92 (by kernel_rfl) (by kernel_rfl) (by kernel_rfl) (by kernel_rfl) sh92 2 (by kernel_rfl) rs92 hr92 ?_
  intro args H r H' hw h
  obtain ⟨rfl, hv⟩ := pureAt h
  clear h
  unfold F92 at hv
  split at hv
  · rename_i v u
    obtain ⟨l, hl, hv⟩ := Option.bind_eq_some_iff.1 hv
    obtain ⟨q, hq, hv⟩ := Option.map_eq_some_iff.1 hv
    cases hv
    refine ⟨rfl, go ?_⟩
    unfold c92
    simp only [argSl]
    repeat' (first | apply goSeq | apply goReg | apply goSeqN | apply goSeqR | apply goSkip | apply goRet | apply goNil | apply goBlock | apply goExit | apply goBlkN | apply goBlkR | apply goBlkE | apply goSeqE | apply goLoopR | apply goLoopE | (apply goOp; (· (simp [*]; try exact rfl)); (· exact rfl)) | (apply goOp0; (· (simp [*]; try exact rfl)); (· exact rfl)) | (apply goYes; (· (simp [*]; done)); (· (simp [*]; try exact rfl)); (· exact rfl)) | (apply goNo; (· (simp [*]; done))) | (apply goNoU; (· (simp; exact rfl))) | (apply goIfT; (· (simp [*]; done))) | (apply goIfF; (· (simp [*]; done))) | (apply goIf; (· (simp; exact rfl)); (· with_reducible exact rfl)) | (apply goSplit; (· (simp; exact rfl)); (· with_reducible exact rfl)) | (apply goIfQ; (· (simp; exact rfl)); (· exact rfl)) | (apply goSplitQ; (· (simp; exact rfl)); (· exact rfl)) | (apply goBlkX; (· rfl)) | intro _)
    exact goEnd hw (Pre.refl _) (by simp) (by simp [rs92]; exact rfl) rfl rfl
  · cases hv
@[simp] theorem F92_at (a b : AV) (H : Hp) : F92 [a, b] H = (ints H a).bind fun l => (ints H b).map fun m => .bool (sameL l m) := rfl
/-- The number of a place; -1: there is none. -/
def idxL (sz l : List Int) : Int := if shapeOK sz = false ∨ l.length ≠ sz.length then -1 else ofGo 0 sz l
def F96 (args : List AV) (H : Hp) : Option AV := match args with
  | [a, b] => (ints H a).bind fun sz => (ints H b).map fun l => .int .i64 (idxL sz l)
  | _ => none
set_option maxHeartbeats 1000000 in
theorem snd96 : Sound Try.prog 96 (FSem.pure F96).run := by
  refine sound_of hT (EOK_cons snd90 (EOK_nil _)) mixed A96 Try.func96 hb96 (by kernel_rfl) (by kernel_rfl) (by kernel_rfl) (by kernel_rfl) sh96 2 (by kernel_rfl) rs96 hr96 ?_
  intro args H r H' hw h
  obtain ⟨rfl, hv⟩ := pureAt h
  clear h
  unfold F96 at hv
  split at hv
  · rename_i a v
    obtain ⟨sz, hsz, hv⟩ := Option.bind_eq_some_iff.1 hv
    obtain ⟨l, hl, hv⟩ := Option.map_eq_some_iff.1 hv
    cases hv
    have hlen := alenS_ints hl
    have hb := ints_len hl
    have hlen2 := alenS_ints hsz
    have hix := aidxS_ints hl .i64
    have hld := aload_nth T3 rfl hl
    have hix2 := aidxS_ints hsz .i64
    have hld2 := aload_nth T3 rfl hsz
    refine ⟨rfl, go ?_⟩
    unfold c96
    simp only [argSl]
    simp only [← aidx22, ← alen22] at hix hlen hix2 hlen2
    rcases hm : shapeOK sz with _ | _
    · repeat' (first | apply goSeq | apply goReg | apply goSeqN | apply goSeqR | apply goSkip | apply goRet | apply goNil | apply goBlock | apply goExit | apply goBlkN | apply goBlkR | apply goBlkE | apply goSeqE | apply goLoopR | apply goLoopE | (apply goOp; (· (simp [*]; try exact rfl)); (· exact rfl)) | (apply goOp0; (· (simp [*]; try exact rfl)); (· exact rfl)) | (apply goYes; (· (simp [*]; done)); (· (simp [*]; try exact rfl)); (· exact rfl)) | (apply goNo; (· (simp [*]; done))) | (apply goNoU; (· (simp; exact rfl))) | (apply goIfT; (· (simp [*]; done))) | (apply goIfF; (· (simp [*]; done))) | (apply goIf; (· (simp; exact rfl)); (· with_reducible exact rfl)) | (apply goSplit; (· (simp; exact rfl)); (· with_reducible exact rfl)) | (apply goIfQ; (· (simp; exact rfl)); (· exact rfl)) | (apply goSplitQ; (· (simp; exact rfl)); (· exact rfl)) | (apply goBlkX; (· rfl)) | intro _)
      refine goEnd hw (Pre.refl _) (by simp) (by simp [rs96]; exact rfl) rfl ?_
      simp [idxL, hm]
    · by_cases hll : l.length = sz.length
      · have hres : idxL sz l = ofGo 0 sz l := by simp [idxL, hm, hll]
        have hll' : (sz.length : Int) = l.length := by omega
        rw [hres]
        rw [hll'] at hix2 hld2 hlen2
        have hll'' : l.length = sz.length := hll
        clear hll hll' hres
        replace hll'' := Hide.mk hll''
        repeat' (first | apply goSeq | apply goReg | apply goSeqN | apply goSeqR | apply goSkip | apply goRet | apply goNil | apply goBlock | apply goExit | apply goBlkN | apply goBlkR | apply goBlkE | apply goSeqE | apply goLoopR | apply goLoopE | (apply goOp; (· (simp [*]; try exact rfl)); (· exact rfl)) | (apply goOp0; (· (simp [*]; try exact rfl)); (· exact rfl)) | (apply goYes; (· (simp [*]; done)); (· (simp [*]; try exact rfl)); (· exact rfl)) | (apply goNo; (· (simp [*]; done))) | (apply goNoU; (· (simp; exact rfl))) | (apply goIfT; (· (simp [*]; done))) | (apply goIfF; (· (simp [*]; done))) | (apply goIf; (· (simp; exact rfl)); (· with_reducible exact rfl)) | (apply goSplit; (· (simp; exact rfl)); (· with_reducible exact rfl)) | (apply goIfQ; (· (simp; exact rfl)); (· exact rfl)) | (apply goSplitQ; (· (simp; exact rfl)); (· exact rfl)) | (apply goBlkX; (· rfl)) | intro _)
        refine goLoop (fun m s1 H1 => H1 = H' ∧ ∃ (i : Nat) (d : Int), m = l.length - i ∧ i ≤ l.length ∧ get s1 0 = a ∧ get s1 5 = .int .i64 d ∧ get s1 18 = v ∧ get s1 19 = .int .i64 l.length ∧ get s1 20 = .int .i64 i ∧ ofGo d (sz.drop i) (l.drop i) = ofGo 0 sz l) l.length ?_ ?_
        · exact ⟨rfl, 0, 0, rfl, Nat.zero_le _, rfl, rfl, rfl, rfl, rfl, by simp⟩
        · rintro m s1 H1 ⟨rfl, i, d, hmm, hi, g1, g2, g3, g4, g5, hgo⟩
          simp only [cut_cons, cut_nil, g1, g2, g3, g4, g5]
          clear g1 g2 g3 g4 g5
          have hi0 : (0 : Int) ≤ i := Int.natCast_nonneg i
          have hw1 : w ((i : Int) + 1) = ((i + 1 : Nat) : Int) := w_id (by omega)
          have hd := fun h => drop_nth l i h
          have hd2 : i < l.length → sz.drop i = nth sz i :: sz.drop (i + 1) := fun h => drop_nth sz i (by have := hll''.out; omega)
          have hnil : ¬ i < l.length → l.drop i = [] := fun h => List.drop_of_length_le (by omega)
          replace hgo := Hide.mk hgo
          replace hd := Hide.mk hd
          replace hd2 := Hide.mk hd2
          replace hnil := Hide.mk hnil
          repeat' (first | apply goSeq | apply goReg | apply goSeqN | apply goSeqR | apply goSkip | apply goRet | apply goNil | apply goBlock | apply goExit | apply goBlkN | apply goBlkR | apply goBlkE | apply goSeqE | apply goLoopR | apply goLoopE | (apply goOp; (· (simp [*]; try exact rfl)); (· exact rfl)) | (apply goOp0; (· (simp [*]; try exact rfl)); (· exact rfl)) | (apply goYes; (· (simp [*]; done)); (· (simp [*]; try exact rfl)); (· exact rfl)) | (apply goNo; (· (simp [*]; done))) | (apply goNoU; (· (simp; exact rfl))) | (apply goIfT; (· (simp [*]; done))) | (apply goIfF; (· (simp [*]; done))) | (apply goIf; (· (simp; exact rfl)); (· with_reducible exact rfl)) | (apply goSplit; (· (simp; exact rfl)); (· with_reducible exact rfl)) | (apply goIfQ; (· (simp; exact rfl)); (· exact rfl)) | (apply goSplitQ; (· (simp; exact rfl)); (· exact rfl)) | (apply goBlkX; (· rfl)) | intro _)
          all_goals replace hgo := hgo.out
          all_goals replace hd := hd.out
          all_goals replace hd2 := hd2.out
          all_goals (try simp only [Bool.not_eq_true', decide_eq_false_iff_not, Bool.not_eq_false', decide_eq_true_eq] at *)
          all_goals first
            | (refine goEnd hw (Pre.refl _) (by simp) (by simp [rs96]; exact rfl) rfl ?_; rw [← hgo, hd (by assumption), hd2 (by assumption)]; simp [ofGo, *]; done)
            | (refine goEnd hw (Pre.refl _) (by simp) (by simp [rs96]; exact rfl) rfl ?_; rw [← hgo, hnil.out (by assumption)]; cases sz.drop i <;> simp [ofGo]; done)
            | (refine goLoopN (l.length - (i + 1)) (by omega) ⟨rfl, i + 1, _, rfl, by omega, rfl, rfl, rfl, rfl, rfl, ?_⟩; rw [← hgo, hd (by assumption), hd2 (by assumption)]; simp [ofGo, *])
      · repeat' (first | apply goSeq | apply goReg | apply goSeqN | apply goSeqR | apply goSkip | apply goRet | apply goNil | apply goBlock | apply goExit | apply goBlkN | apply goBlkR | apply goBlkE | apply goSeqE | apply goLoopR | apply goLoopE | (apply goOp; (· (simp [*]; try exact rfl)); (· exact rfl)) | (apply goOp0; (· (simp [*]; try exact rfl)); (· exact rfl)) | (apply goYes; (· (simp [*]; done)); (· (simp [*]; try exact rfl)); (· exact rfl)) | (apply goNo; (· (simp [*]; done))) | (apply goNoU; (· (simp; exact rfl))) | (apply goIfT; (· (simp [*]; done))) | (apply goIfF; (· (simp [*]; done))) | (apply goIf; (· (simp; exact rfl)); (· with_reducible exact rfl)) | (apply goSplit; (· (simp; exact rfl)); (· with_reducible exact rfl)) | (apply goIfQ; (· (simp; exact rfl)); (· exact rfl)) | (apply goSplitQ; (· (simp; exact rfl)); (· exact rfl)) | (apply goBlkX; (· rfl)) | intro _)
        · refine goEnd hw (Pre.refl _) (by simp) (by simp [rs96]; exact rfl) rfl ?_
          simp [idxL, hm, hll]
        · rename_i hc
          simp at hc
          omega
  · cases hv
@[simp] theorem F96_at (a b : AV) (H : Hp) : F96 [a, b] H = (ints H a).bind fun sz => (ints H b).map fun l => .int .i64 (idxL sz l) := rfl
theorem prodW_zero : ∀ (l : List Int), prodW 0 l = 0 := by
  intro l
  induction l with
  | nil => rfl
  | cons k l ih =>
    simp only [prodW, Int.zero_mul]
    rw [show w 0 = 0 by decide]
    exact ih
theorem prodW_has : ∀ (l : List Int) (n : Int), (∃ j : Nat, j < l.length ∧ nth l j = 0) → prodW n l = 0 := by
  intro l
  induction l with
  | nil => rintro n ⟨j, hj, _⟩; simp at hj
  | cons k l ih =>
    rintro n ⟨j, hj, h0⟩
    simp only [prodW]
    cases j with
    | zero =>
      have : k = 0 := by simpa [nth] using h0
      rw [this, Int.mul_zero, show w 0 = 0 by decide]
      exact prodW_zero l
    | succ j => exact ih _ ⟨j, by simpa using hj, by simpa [nth] using h0⟩
theorem shapeGo_rng : ∀ (l : List Int) (n : Int), shapeGo n l = true → ∀ j : Nat, j < l.length → 0 ≤ nth l j ∧ nth l j ≤ 32 := by
  intro l
  induction l with
  | nil => intro n _ j hj; simp at hj
  | cons k l ih =>
    intro n h j hj
    simp only [shapeGo] at h
    split at h
    · cases h
    · cases j with
      | zero => simp [nth]; omega
      | succ j => simpa [nth] using ih _ h j (by simpa using hj)
theorem shapeOK_rng {l : List Int} (h : shapeOK l = true) : l.length ≤ 4 ∧ ∀ j : Nat, j < l.length → 0 ≤ nth l j ∧ nth l j ≤ 32 := by
  unfold shapeOK at h
  split at h
  · cases h
  · exact ⟨by omega, shapeGo_rng l 1 h⟩
theorem shape_pos {l : List Int} (h : shapeOK l = true) (hp : 0 < prodW 1 l) : l.length ≤ 4 ∧ ∀ j : Nat, j < l.length → 1 ≤ nth l j ∧ nth l j ≤ 32 := by
  obtain ⟨h4, hr⟩ := shapeOK_rng h
  refine ⟨h4, fun j hj => ?_⟩
  have := hr j hj
  by_cases h0 : nth l j = 0
  · have := prodW_has l 1 ⟨j, hj, h0⟩; omega
  · omega
def F95 (args : List AV) (H : Hp) : Option (AV × Hp) := match args with
  | [a, .int .i64 d] => (ints H a).map fun sz => if d < 0 ∨ sizeOf sz ≤ d then (.nilS, H) else mkF H (meshAt sz d)
  | _ => none
set_option maxHeartbeats 1000000 in
theorem snd95 : Sound Try.prog 95 (FSem.eff F95).run := by
  refine sound_of hT (EOK_cons snd136 (EOK_nil _)) mixed A95 Try.func95 hb95 (by kernel_rfl) (by kernel_rfl) (by kernel_rfl) (by kernel_rfl) sh95 2 (by kernel_rfl) rs95 hr95 ?_
  intro args H r H' hw h
  have hv : F95 args H = some (r, H') := h
  clear h
  unfold F95 at hv
  split at hv
  · rename_i v d
    obtain ⟨l, hl, hv⟩ := Option.map_eq_some_iff.1 hv
    have hlen := alenS_ints hl
    have hb := ints_len hl
    have hix := aidxS_ints hl .i64
    have hld := fun {H1 : Hp} (he : Pre H H1) => aload_nth T3 rfl (ints_ext he hl)
    refine ⟨rfl, go ?_⟩
    unfold c95
    simp only [argSl]
    simp only [← aidx22, ← alen22] at hix hlen
    replace hv := Hide.mk hv
    repeat' (first | apply goSeq | apply goReg | apply goSeqN | apply goSeqR | apply goSkip | apply goRet | apply goNil | apply goBlock | apply goExit | apply goBlkN | apply goBlkR | apply goBlkE | apply goSeqE | apply goLoopR | apply goLoopE | (apply goOp; (· (simp [*]; try exact rfl)); (· exact rfl)) | (apply goOp0; (· (simp [*]; try exact rfl)); (· exact rfl)) | (apply goYes; (· (simp [*]; done)); (· (simp [*]; try exact rfl)); (· exact rfl)) | (apply goNo; (· (simp [*]; done))) | (apply goNoU; (· (simp; exact rfl))) | (apply goIfT; (· (simp [*]; done))) | (apply goIfF; (· (simp [*]; done))) | (apply goIf; (· (simp; exact rfl)); (· with_reducible exact rfl)) | (apply goSplit; (· (simp; exact rfl)); (· with_reducible exact rfl)) | (apply goIfQ; (· (simp; exact rfl)); (· exact rfl)) | (apply goSplitQ; (· (simp; exact rfl)); (· exact rfl)) | (apply goBlkX; (· rfl)) | intro _)
    · rename_i h1
      replace hv := hv.out
      rw [if_pos (.inl h1)] at hv
      exact goEndS (l := []) hw (Ext.refl hw) (.inl ⟨rfl, rfl⟩) (by simp) (by simp [rs95]) rfl hv
    · rename_i h1 h2
      replace hv := hv.out
      rw [if_pos (.inr h2)] at hv
      exact goEndS (l := []) hw (Ext.refl hw) (.inl ⟨rfl, rfl⟩) (by simp) (by simp [rs95]) rfl hv
    · rename_i h1 h2
      replace hv := hv.out
      rw [if_neg (by omega)] at hv
      have hm : shapeOK l = true := by
        rcases hmm : shapeOK l with _ | _
        · exfalso; simp [sizeOf, hmm] at h2; omega
        · rfl
      obtain ⟨h3, hpos⟩ := shape_pos hm (by have : sizeOf l = prodW 1 l := by simp [sizeOf, hm]
                                            omega)
      obtain ⟨u, H1, e, ho, he⟩ := make_own (Ext.refl hw) l.length (by omega)
      refine goOp (v := u) (H' := H1) rfl (by simp; exact e) ?_
      replace hv := Hide.mk hv
      repeat' (first | apply goSeq | apply goReg | apply goSeqN | apply goSeqR | apply goSkip | apply goRet | apply goNil | apply goBlock | apply goExit | apply goBlkN | apply goBlkR | apply goBlkE | apply goSeqE | apply goLoopR | apply goLoopE | (apply goOp; (· (simp [*]; try exact rfl)); (· exact rfl)) | (apply goOp0; (· (simp [*]; try exact rfl)); (· exact rfl)) | (apply goYes; (· (simp [*]; done)); (· (simp [*]; try exact rfl)); (· exact rfl)) | (apply goNo; (· (simp [*]; done))) | (apply goNoU; (· (simp; exact rfl))) | (apply goIfT; (· (simp [*]; done))) | (apply goIfF; (· (simp [*]; done))) | (apply goIf; (· (simp; exact rfl)); (· with_reducible exact rfl)) | (apply goSplit; (· (simp; exact rfl)); (· with_reducible exact rfl)) | (apply goIfQ; (· (simp; exact rfl)); (· exact rfl)) | (apply goSplitQ; (· (simp; exact rfl)); (· exact rfl)) | (apply goBlkX; (· rfl)) | intro _)
      have hwl : w ((l.length : Int) - 1) = (l.length : Int) - 1 := w_id (by omega)
      rw [hwl]
      refine goLoop (fun m s1 H1 => Ext H H1 ∧ ∃ (d1 : Int) (out : List Int) (u : AV), m ≤ l.length ∧ get s1 0 = v ∧ get s1 1 = .int .i64 d1 ∧ get s1 5 = u ∧ get s1 6 = .int .i64 ((m : Int) - 1) ∧ OwnF H H1 u out ∧ out.length = l.length ∧ atW l m d1 out = meshAt l d) l.length ?_ ?_
      · exact ⟨he, d, _, u, Nat.le_refl _, rfl, rfl, rfl, rfl, ho, by simp, rfl⟩
      · clear he ho e hwl h1 h2 hm
        rintro m s1 H1 ⟨he, d1, out, u, hi, g1, g2, g3, g4, ho, hol, hgo⟩
        have hixu := aidxS_ints (ints_of_ownF ho (by omega)) .i64
        simp only [← aidx22] at hixu
        have hl1 := hld he.pre
        cases m with
        | zero =>
          simp only [cut_cons, cut_nil, g1, g2, g3, g4]
          clear g1 g2 g3 g4
          replace ho := Hide.mk ho
          replace hgo := Hide.mk hgo
          repeat' (first | apply goSeq | apply goReg | apply goSeqN | apply goSeqR | apply goSkip | apply goRet | apply goNil | apply goBlock | apply goExit | apply goBlkN | apply goBlkR | apply goBlkE | apply goSeqE | apply goLoopR | apply goLoopE | (apply goOp; (· (simp [*]; try exact rfl)); (· exact rfl)) | (apply goOp0; (· (simp [*]; try exact rfl)); (· exact rfl)) | (apply goYes; (· (simp [*]; done)); (· (simp [*]; try exact rfl)); (· exact rfl)) | (apply goNo; (· (simp [*]; done))) | (apply goNoU; (· (simp; exact rfl))) | (apply goIfT; (· (simp [*]; done))) | (apply goIfF; (· (simp [*]; done))) | (apply goIf; (· (simp; exact rfl)); (· with_reducible exact rfl)) | (apply goSplit; (· (simp; exact rfl)); (· with_reducible exact rfl)) | (apply goIfQ; (· (simp; exact rfl)); (· exact rfl)) | (apply goSplitQ; (· (simp; exact rfl)); (· exact rfl)) | (apply goBlkX; (· rfl)) | intro _)
          refine goEndF hw he ho.out (by simp) (by simp [rs95]) rfl ?_
          rw [← hv.out, ← hgo.out]
          rfl
        | succ m =>
          rw [show (((m + 1 : Nat) : Int) - 1) = (m : Int) by omega] at g4
          simp only [cut_cons, cut_nil, g1, g2, g3, g4]
          clear g1 g2 g3 g4
          have hm0 : (0 : Int) ≤ m := Int.natCast_nonneg m
          have hml : m < l.length := by omega
          have hne : ¬ nth l m = 0 := by have := hpos m hml; omega
          have hwm : w ((m : Int) - 1) = (m : Int) - 1 := w_id (by omega)
          replace ho := Hide.mk ho
          replace hgo := Hide.mk hgo
          repeat' (first | apply goSeq | apply goReg | apply goSeqN | apply goSeqR | apply goSkip | apply goRet | apply goNil | apply goBlock | apply goExit | apply goBlkN | apply goBlkR | apply goBlkE | apply goSeqE | apply goLoopR | apply goLoopE | (apply goOp; (· (simp [*]; try exact rfl)); (· exact rfl)) | (apply goOp0; (· (simp [*]; try exact rfl)); (· exact rfl)) | (apply goYes; (· (simp [*]; done)); (· (simp [*]; try exact rfl)); (· exact rfl)) | (apply goNo; (· (simp [*]; done))) | (apply goNoU; (· (simp; exact rfl))) | (apply goIfT; (· (simp [*]; done))) | (apply goIfF; (· (simp [*]; done))) | (apply goIf; (· (simp; exact rfl)); (· with_reducible exact rfl)) | (apply goSplit; (· (simp; exact rfl)); (· with_reducible exact rfl)) | (apply goIfQ; (· (simp; exact rfl)); (· exact rfl)) | (apply goSplitQ; (· (simp; exact rfl)); (· exact rfl)) | (apply goBlkX; (· rfl)) | intro _)
          obtain ⟨H2, e, ho', he'⟩ := store_own hw he ho.out m (by omega) (d1.tmod (nth l m))
          have hl2 := hld he'.pre
          refine goOp0 (v := .bad) (H' := H2) rfl (by simp [e]) ?_
          replace ho' := Hide.mk ho'
          clear e
          repeat' (first | apply goSeq | apply goReg | apply goSeqN | apply goSeqR | apply goSkip | apply goRet | apply goNil | apply goBlock | apply goExit | apply goBlkN | apply goBlkR | apply goBlkE | apply goSeqE | apply goLoopR | apply goLoopE | (apply goOp; (· (simp [*]; try exact rfl)); (· exact rfl)) | (apply goOp0; (· (simp [*]; try exact rfl)); (· exact rfl)) | (apply goYes; (· (simp [*]; done)); (· (simp [*]; try exact rfl)); (· exact rfl)) | (apply goNo; (· (simp [*]; done))) | (apply goNoU; (· (simp; exact rfl))) | (apply goIfT; (· (simp [*]; done))) | (apply goIfF; (· (simp [*]; done))) | (apply goIf; (· (simp; exact rfl)); (· with_reducible exact rfl)) | (apply goSplit; (· (simp; exact rfl)); (· with_reducible exact rfl)) | (apply goIfQ; (· (simp; exact rfl)); (· exact rfl)) | (apply goSplitQ; (· (simp; exact rfl)); (· exact rfl)) | (apply goBlkX; (· rfl)) | intro _)
          exact goLoopN m (by omega) ⟨he', _, _, u, by omega, rfl, rfl, rfl, rfl, ho'.out, by simp [hol], by rw [← hgo.out]; rfl⟩
  · cases hv
@[simp] theorem F95_at (a : AV) (d : Int) (H : Hp) : F95 [a, .int .i64 d] H = (ints H a).map fun sz => if d < 0 ∨ sizeOf sz ≤ d then (.nilS, H) else mkF H (meshAt sz d) := rfl
/-! ### tensors -/
def tens (H : Hp) (a : AV) : Option (List Int × List Int) := match a with
  | .agg [x, y] => (ints H x).bind fun s => (ints H y).map fun d => (s, d)
  | _ => none
theorem tens_some {H : Hp} {a : AV} {p : List Int × List Int} (h : tens H a = some p) : ∃ x y, a = .agg [x, y] ∧ ints H x = some p.1 ∧ ints H y = some p.2 := by
  unfold tens at h
  split at h
  · rename_i x y
    obtain ⟨s, hs, h⟩ := Option.bind_eq_some_iff.1 h
    obtain ⟨d, hd, h⟩ := Option.map_eq_some_iff.1 h
    cases h
    exact ⟨x, y, rfl, hs, hd⟩
  · cases h
theorem tens_of {H : Hp} {x y : AV} {s d : List Int} (hs : ints H x = some s) (hd : ints H y = some d) : tens H (.agg [x, y]) = some (s, d) := by
  simp [tens, hs, hd]
theorem tens_ext {H H' : Hp} (hp : Pre H H') {a : AV} {p : List Int × List Int} (h : tens H a = some p) : tens H' a = some p := by
  obtain ⟨x, y, rfl, hs, hd⟩ := tens_some h
  exact tens_of (ints_ext hp hs) (ints_ext hp hd)
theorem ints_one' {H : Hp} {v : AV} {l : List Int} (h : ints H v = some l) : v.one = true := (ints_cell h).2.1
theorem abox_agg {x y : AV} (H : Hp) (h1 : x.one = true) (h2 : y.one = true) : abox (.agg [x, y]) H = some (.ptr H.bs.length H.c 0, H.new [x, y]) := by
  unfold abox; rw [if_pos (by simp [AV.cells, h1, h2])]; rfl
@[simp] theorem fa40_0 (b v o : Nat) : afaddr' T 40 (.ptr b v o) 0 = some (.ptr b v o) := by simp [afaddr', D40, afaddr, T22]
@[simp] theorem fa40_1 (b v o : Nat) : afaddr' T 40 (.ptr b v o) 1 = some (.ptr b v (o + 1)) := by simp [afaddr', D40, afaddr, T38]
theorem ld22 {H : Hp} {b ver : Nat} {k : Blk} (h : H.at b ver = some k) (j : Nat) : aload T 22 (.ptr b ver j) H = k.cells[j]? := by simp [aload, T22, h]
theorem ld38 {H : Hp} {b ver : Nat} {k : Blk} (h : H.at b ver = some k) (j : Nat) : aload T 38 (.ptr b ver j) H = k.cells[j]? := by simp [aload, T38, h]
theorem ld40 {H : Hp} {b ver : Nat} {x y : AV} {t s : Bool} (h : H.at b ver = some ⟨ver, [x, y], t, s⟩) : aload T 40 (.ptr b ver 0) H = some (.agg [x, y]) := by simp [aload, T40, h]
/-- Is it right? -/
def tOK (p : List Int × List Int) : Bool := shapeOK p.1 && decide ((p.2.length : Int) = sizeOf p.1)
def F91 (args : List AV) (H : Hp) : Option AV := match args with
  | [t] => (tens H t).map fun p => .bool (tOK p)
  | _ => none
theorem snd91 : Sound Try.prog 91 (FSem.pure F91).run := by
  refine sound_of hT (EOK_cons snd90 (EOK_cons snd136 (EOK_nil _))) mixed A91 Try.func91 hb91 (by kernel_rfl) (by kernel_rfl) (by kernel_rfl) (by kernel_rfl) sh91 1 (by kernel_rfl) rs91 hr91 ?_
  intro args H r H' hw h
  obtain ⟨rfl, hv⟩ := pureAt h
  clear h
  unfold F91 at hv
  split at hv
  · obtain ⟨⟨s, d⟩, ht, hv⟩ := Option.map_eq_some_iff.1 hv
    cases hv
    obtain ⟨x, y, rfl, hs, hd⟩ := tens_some ht
    have hbx := abox_agg H' (ints_one' hs) (ints_one' hd)
    have hat := new_at H' [x, y]
    have l1 := ld22 hat 0
    have l2 := ld38 hat 1
    have hP : Pre H' (H'.new [x, y]) := Pre.new (Pre.refl _) _
    have hs1 := ints_ext hP hs
    have hd1 := ints_ext hP hd
    have hln := alenS_ints hd1
    simp only [← alen38] at hln
    simp only [List.getElem?_cons_zero, List.getElem?_cons_succ] at l1 l2
    refine ⟨rfl, go ?_⟩
    unfold c91
    simp only [argSl]
    generalize H'.new [x, y] = H1 at *
    generalize H'.bs.length = b at l1 l2 hbx
    generalize H'.c = ver at l1 l2 hbx
    clear hs hd hat
    replace hP := Hide.mk hP
    rcases hsh : shapeOK s with _ | _
    · repeat' (first | apply goSeq | apply goReg | apply goSeqN | apply goSeqR | apply goSkip | apply goRet | apply goNil | apply goBlock | apply goExit | apply goBlkN | apply goBlkR | apply goBlkE | apply goSeqE | apply goLoopR | apply goLoopE | (apply goOp; (· (simp [*]; try exact rfl)); (· exact rfl)) | (apply goOp0; (· (simp [*]; try exact rfl)); (· exact rfl)) | (apply goYes; (· (simp [*]; done)); (· (simp [*]; try exact rfl)); (· exact rfl)) | (apply goNo; (· (simp [*]; done))) | (apply goNoU; (· (simp; exact rfl))) | (apply goIfT; (· (simp [*]; done))) | (apply goIfF; (· (simp [*]; done))) | (apply goIf; (· (simp; exact rfl)); (· with_reducible exact rfl)) | (apply goSplit; (· (simp; exact rfl)); (· with_reducible exact rfl)) | (apply goIfQ; (· (simp; exact rfl)); (· exact rfl)) | (apply goSplitQ; (· (simp; exact rfl)); (· exact rfl)) | (apply goBlkX; (· rfl)) | intro _)
      refine goEnd hw hP.out (by simp) (by simp [rs91]; exact rfl) rfl ?_
      simp [tOK, hsh]
    · repeat' (first | apply goSeq | apply goReg | apply goSeqN | apply goSeqR | apply goSkip | apply goRet | apply goNil | apply goBlock | apply goExit | apply goBlkN | apply goBlkR | apply goBlkE | apply goSeqE | apply goLoopR | apply goLoopE | (apply goOp; (· (simp [*]; try exact rfl)); (· exact rfl)) | (apply goOp0; (· (simp [*]; try exact rfl)); (· exact rfl)) | (apply goYes; (· (simp [*]; done)); (· (simp [*]; try exact rfl)); (· exact rfl)) | (apply goNo; (· (simp [*]; done))) | (apply goNoU; (· (simp; exact rfl))) | (apply goIfT; (· (simp [*]; done))) | (apply goIfF; (· (simp [*]; done))) | (apply goIf; (· (simp; exact rfl)); (· with_reducible exact rfl)) | (apply goSplit; (· (simp; exact rfl)); (· with_reducible exact rfl)) | (apply goIfQ; (· (simp; exact rfl)); (· exact rfl)) | (apply goSplitQ; (· (simp; exact rfl)); (· exact rfl)) | (apply goBlkX; (· rfl)) | intro _)
      refine goEnd hw hP.out (by simp) (by simp [rs91]; exact rfl) rfl ?_
      simp [tOK, hsh]
  · cases hv
@[simp] theorem F91_at (t : AV) (H : Hp) : F91 [t] H = (tens H t).map fun p => .bool (tOK p) := rfl
/-- May it be parted so? -/
def mayL (p : List Int × List Int) (sz sp : List Int) : Int := if tOK p = false then 13 else if specOK sz sp p.1.length = false then 1 else 0
def F87 (args : List AV) (H : Hp) : Option AV := match args with
  | [t, a, b] => (tens H t).bind fun p => (ints H a).bind fun sz => (ints H b).map fun sp => .int .i64 (mayL p sz sp)
  | _ => none
theorem snd87 : Sound Try.prog 87 (FSem.pure F87).run := by
  refine sound_of hT (EOK_cons snd91 (EOK_cons snd89 (EOK_cons snd63 (EOK_nil _)))) mixed A87 Try.func87 hb87 (by kernel_rfl) (by kernel_rfl) (by kernel_rfl) (by kernel_rfl) sh87 3 (by kernel_rfl) rs87 hr87 ?_
  intro args H r H' hw h
  obtain ⟨rfl, hv⟩ := pureAt h
  clear h
  unfold F87 at hv
  split at hv
  · rename_i t a c
    obtain ⟨⟨s, d⟩, ht, hv⟩ := Option.bind_eq_some_iff.1 hv
    obtain ⟨sz, hsz, hv⟩ := Option.bind_eq_some_iff.1 hv
    obtain ⟨sp, hsp, hv⟩ := Option.map_eq_some_iff.1 hv
    cases hv
    obtain ⟨x, y, rfl, hs, hd⟩ := tens_some ht
    have hbx := abox_agg H' (ints_one' hs) (ints_one' hd)
    have hat := new_at H' [x, y]
    have l1 := ld22 hat 0
    have l3 := ld40 hat
    have hP : Pre H' (H'.new [x, y]) := Pre.new (Pre.refl _) _
    have hs1 := ints_ext hP hs
    have hd1 := ints_ext hP hd
    have ht1 := tens_ext hP ht
    have hsz1 := ints_ext hP hsz
    have hsp1 := ints_ext hP hsp
    have hln := alenS_ints hs1
    simp only [← alen22] at hln
    simp only [List.getElem?_cons_zero] at l1
    refine ⟨rfl, go ?_⟩
    unfold c87
    simp only [argSl]
    generalize H'.new [x, y] = H1 at *
    generalize H'.bs.length = b at l1 l3 hbx
    generalize H'.c = ver at l1 l3 hbx
    clear hs hd hat ht hsz hsp
    replace hP := Hide.mk hP
    have hmm : meshOK sz = false → specOK sz sp s.length = false := by intro h; simp [specOK, h]
    rcases h1 : tOK (s, d) with _ | _
    · repeat' (first | apply goSeq | apply goReg | apply goSeqN | apply goSeqR | apply goSkip | apply goRet | apply goNil | apply goBlock | apply goExit | apply goBlkN | apply goBlkR | apply goBlkE | apply goSeqE | apply goLoopR | apply goLoopE | (apply goOp; (· (simp [*]; try exact rfl)); (· exact rfl)) | (apply goOp0; (· (simp [*]; try exact rfl)); (· exact rfl)) | (apply goYes; (· (simp [*]; done)); (· (simp [*]; try exact rfl)); (· exact rfl)) | (apply goNo; (· (simp [*]; done))) | (apply goNoU; (· (simp; exact rfl))) | (apply goIfT; (· (simp [*]; done))) | (apply goIfF; (· (simp [*]; done))) | (apply goIf; (· (simp; exact rfl)); (· with_reducible exact rfl)) | (apply goSplit; (· (simp; exact rfl)); (· with_reducible exact rfl)) | (apply goIfQ; (· (simp; exact rfl)); (· exact rfl)) | (apply goSplitQ; (· (simp; exact rfl)); (· exact rfl)) | (apply goBlkX; (· rfl)) | intro _)
      refine goEnd hw hP.out (by simp) (by simp [rs87]; exact rfl) rfl ?_
      simp [mayL, h1]
    · rcases h2 : meshOK sz with _ | _
      · replace hmm := hmm h2
        repeat' (first | apply goSeq | apply goReg | apply goSeqN | apply goSeqR | apply goSkip | apply goRet | apply goNil | apply goBlock | apply goExit | apply goBlkN | apply goBlkR | apply goBlkE | apply goSeqE | apply goLoopR | apply goLoopE | (apply goOp; (· (simp [*]; try exact rfl)); (· exact rfl)) | (apply goOp0; (· (simp [*]; try exact rfl)); (· exact rfl)) | (apply goYes; (· (simp [*]; done)); (· (simp [*]; try exact rfl)); (· exact rfl)) | (apply goNo; (· (simp [*]; done))) | (apply goNoU; (· (simp; exact rfl))) | (apply goIfT; (· (simp [*]; done))) | (apply goIfF; (· (simp [*]; done))) | (apply goIf; (· (simp; exact rfl)); (· with_reducible exact rfl)) | (apply goSplit; (· (simp; exact rfl)); (· with_reducible exact rfl)) | (apply goIfQ; (· (simp; exact rfl)); (· exact rfl)) | (apply goSplitQ; (· (simp; exact rfl)); (· exact rfl)) | (apply goBlkX; (· rfl)) | intro _)
        refine goEnd hw hP.out (by simp) (by simp [rs87]; exact rfl) rfl ?_
        simp [mayL, h1, hmm]
      · rcases h3 : specOK sz sp s.length with _ | _
        · clear hmm
          repeat' (first | apply goSeq | apply goReg | apply goSeqN | apply goSeqR | apply goSkip | apply goRet | apply goNil | apply goBlock | apply goExit | apply goBlkN | apply goBlkR | apply goBlkE | apply goSeqE | apply goLoopR | apply goLoopE | (apply goOp; (· (simp [*]; try exact rfl)); (· exact rfl)) | (apply goOp0; (· (simp [*]; try exact rfl)); (· exact rfl)) | (apply goYes; (· (simp [*]; done)); (· (simp [*]; try exact rfl)); (· exact rfl)) | (apply goNo; (· (simp [*]; done))) | (apply goNoU; (· (simp; exact rfl))) | (apply goIfT; (· (simp [*]; done))) | (apply goIfF; (· (simp [*]; done))) | (apply goIf; (· (simp; exact rfl)); (· with_reducible exact rfl)) | (apply goSplit; (· (simp; exact rfl)); (· with_reducible exact rfl)) | (apply goIfQ; (· (simp; exact rfl)); (· exact rfl)) | (apply goSplitQ; (· (simp; exact rfl)); (· exact rfl)) | (apply goBlkX; (· rfl)) | intro _)
          refine goEnd hw hP.out (by simp) (by simp [rs87]; exact rfl) rfl ?_
          simp [mayL, h1, h3]
        · clear hmm
          repeat' (first | apply goSeq | apply goReg | apply goSeqN | apply goSeqR | apply goSkip | apply goRet | apply goNil | apply goBlock | apply goExit | apply goBlkN | apply goBlkR | apply goBlkE | apply goSeqE | apply goLoopR | apply goLoopE | (apply goOp; (· (simp [*]; try exact rfl)); (· exact rfl)) | (apply goOp0; (· (simp [*]; try exact rfl)); (· exact rfl)) | (apply goYes; (· (simp [*]; done)); (· (simp [*]; try exact rfl)); (· exact rfl)) | (apply goNo; (· (simp [*]; done))) | (apply goNoU; (· (simp; exact rfl))) | (apply goIfT; (· (simp [*]; done))) | (apply goIfF; (· (simp [*]; done))) | (apply goIf; (· (simp; exact rfl)); (· with_reducible exact rfl)) | (apply goSplit; (· (simp; exact rfl)); (· with_reducible exact rfl)) | (apply goIfQ; (· (simp; exact rfl)); (· exact rfl)) | (apply goSplitQ; (· (simp; exact rfl)); (· exact rfl)) | (apply goBlkX; (· rfl)) | intro _)
          refine goEnd hw hP.out (by simp) (by simp [rs87]; exact rfl) rfl ?_
          simp [mayL, h1, h3]
  · cases hv
@[simp] theorem F87_at (t a b : AV) (H : Hp) : F87 [t, a, b] H = (tens H t).bind fun p => (ints H a).bind fun sz => (ints H b).map fun sp => .int .i64 (mayL p sz sp) := rfl
/-- Are two tensors the same? -/
def sameT (p q : List Int × List Int) : Bool := sameL p.1 q.1 && sameL p.2 q.2
def F93 (args : List AV) (H : Hp) : Option AV := match args with
  | [t, u] => (tens H t).bind fun p => (tens H u).map fun q => .bool (sameT p q)
  | _ => none
theorem snd93 : Sound Try.prog 93 (FSem.pure F93).run := by
  refine sound_of hT (EOK_cons snd92 (EOK_cons snd137 (EOK_nil _))) mixed A93 Try.func93 hb93 (by kernel_rfl) (by kernel_rfl) (by kernel_rfl) (by kernel_rfl) sh93 2 (by kernel_rfl) rs93 hr93 ?_
  intro args H r H' hw h
  obtain ⟨rfl, hv⟩ := pureAt h
  clear h
  unfold F93 at hv
  split at hv
  · rename_i t u
    obtain ⟨⟨s, d⟩, ht, hv⟩ := Option.bind_eq_some_iff.1 hv
    obtain ⟨⟨s', d'⟩, hu, hv⟩ := Option.map_eq_some_iff.1 hv
    cases hv
    obtain ⟨x, y, rfl, hs, hd⟩ := tens_some ht
    obtain ⟨x', y', rfl, hs', hd'⟩ := tens_some hu
    have hbx := abox_agg H' (ints_one' hs) (ints_one' hd)
    have hbx2 := abox_agg (H'.new [x, y]) (ints_one' hs') (ints_one' hd')
    have hat2 := new_at (H'.new [x, y]) [x', y']
    have hP1 : Pre (H'.new [x, y]) ((H'.new [x, y]).new [x', y']) := Pre.new (Pre.refl _) _
    have hat := hP1.at (new_at H' [x, y])
    have l1 := ld22 hat 0
    have l2 := ld38 hat 1
    have l3 := ld22 hat2 0
    have l4 := ld38 hat2 1
    have hP : Pre H' ((H'.new [x, y]).new [x', y']) := (Pre.new (Pre.refl _) _).trans hP1
    have hs1 := ints_ext hP hs
    have hd1 := ints_ext hP hd
    have hs2 := ints_ext hP hs'
    have hd2 := ints_ext hP hd'
    simp only [List.getElem?_cons_zero, List.getElem?_cons_succ] at l1 l2 l3 l4
    refine ⟨rfl, go ?_⟩
    unfold c93
    simp only [argSl]
    clear hat hat2 hP1 hs hd hs' hd' ht hu
    generalize (H'.new [x, y]).new [x', y'] = H2 at *
    generalize (H'.new [x, y]).bs.length = b2 at *
    generalize (H'.new [x, y]).c = ver2 at *
    generalize H'.new [x, y] = H1 at *
    generalize H'.bs.length = b at l1 l2 hbx
    generalize H'.c = ver at l1 l2 hbx
    replace hP := Hide.mk hP
    rcases hss : sameL s s' with _ | _
    · repeat' (first | apply goSeq | apply goReg | apply goSeqN | apply goSeqR | apply goSkip | apply goRet | apply goNil | apply goBlock | apply goExit | apply goBlkN | apply goBlkR | apply goBlkE | apply goSeqE | apply goLoopR | apply goLoopE | (apply goOp; (· (simp [*]; try exact rfl)); (· exact rfl)) | (apply goOp0; (· (simp [*]; try exact rfl)); (· exact rfl)) | (apply goYes; (· (simp [*]; done)); (· (simp [*]; try exact rfl)); (· exact rfl)) | (apply goNo; (· (simp [*]; done))) | (apply goNoU; (· (simp; exact rfl))) | (apply goIfT; (· (simp [*]; done))) | (apply goIfF; (· (simp [*]; done))) | (apply goIf; (· (simp; exact rfl)); (· with_reducible exact rfl)) | (apply goSplit; (· (simp; exact rfl)); (· with_reducible exact rfl)) | (apply goIfQ; (· (simp; exact rfl)); (· exact rfl)) | (apply goSplitQ; (· (simp; exact rfl)); (· exact rfl)) | (apply goBlkX; (· rfl)) | intro _)
      refine goEnd hw hP.out (by simp) (by simp [rs93]; exact rfl) rfl ?_
      simp [sameT, hss]
    · repeat' (first | apply goSeq | apply goReg | apply goSeqN | apply goSeqR | apply goSkip | apply goRet | apply goNil | apply goBlock | apply goExit | apply goBlkN | apply goBlkR | apply goBlkE | apply goSeqE | apply goLoopR | apply goLoopE | (apply goOp; (· (simp [*]; try exact rfl)); (· exact rfl)) | (apply goOp0; (· (simp [*]; try exact rfl)); (· exact rfl)) | (apply goYes; (· (simp [*]; done)); (· (simp [*]; try exact rfl)); (· exact rfl)) | (apply goNo; (· (simp [*]; done))) | (apply goNoU; (· (simp; exact rfl))) | (apply goIfT; (· (simp [*]; done))) | (apply goIfF; (· (simp [*]; done))) | (apply goIf; (· (simp; exact rfl)); (· with_reducible exact rfl)) | (apply goSplit; (· (simp; exact rfl)); (· with_reducible exact rfl)) | (apply goIfQ; (· (simp; exact rfl)); (· exact rfl)) | (apply goSplitQ; (· (simp; exact rfl)); (· exact rfl)) | (apply goBlkX; (· rfl)) | intro _)
      refine goEnd hw hP.out (by simp) (by simp [rs93]; exact rfl) rfl ?_
      simp [sameT, hss]
  · cases hv
@[simp] theorem F93_at (t u : AV) (H : Hp) : F93 [t, u] H = (tens H t).bind fun p => (tens H u).map fun q => .bool (sameT p q) := rfl
def F39 (args : List AV) (H : Hp) : Option AV := match args with
  | [t, u] => (tens H t).bind fun p => (tens H u).map fun q => .bool (sameT p q)
  | _ => none
set_option maxHeartbeats 1000000 in
theorem snd39 : Sound Try.prog 39 (FSem.pure F39).run := by
  refine sound_of hT (EOK_cons snd97 (EOK_nil _)) mixed A39 Try.func39 hb39 (by kernel_rfl) (by kernel_rfl) (by kernel_rfl) (by kernel_rfl) sh39 2 (by kernel_rfl) rs39 hr39 ?_
  intro args H r H' hw h
  obtain ⟨rfl, hv⟩ := pureAt h
  clear h
  unfold F39 at hv
  split at hv
  · rename_i t u
    obtain ⟨⟨s, d⟩, ht, hv⟩ := Option.bind_eq_some_iff.1 hv
    obtain ⟨⟨s', d'⟩, hu, hv⟩ := Option.map_eq_some_iff.1 hv
    cases hv
    obtain ⟨x, y, rfl, hs, hd⟩ := tens_some ht
    obtain ⟨x', y', rfl, hs', hd'⟩ := tens_some hu
    have hbx := abox_agg H' (ints_one' hs) (ints_one' hd)
    have hbx2 := abox_agg (H'.new [x, y]) (ints_one' hs') (ints_one' hd')
    have hat2 := new_at (H'.new [x, y]) [x', y']
    have hP1 : Pre (H'.new [x, y]) ((H'.new [x, y]).new [x', y']) := Pre.new (Pre.refl _) _
    have hat := hP1.at (new_at H' [x, y])
    have l1 := ld22 hat 0
    have l2 := ld38 hat 1
    have l3 := ld22 hat2 0
    have l4 := ld38 hat2 1
    have hP : Pre H' ((H'.new [x, y]).new [x', y']) := (Pre.new (Pre.refl _) _).trans hP1
    have hs1 := ints_ext hP hs
    have hd1 := ints_ext hP hd
    have hs2 := ints_ext hP hs'
    have hd2 := ints_ext hP hd'
    simp only [List.getElem?_cons_zero, List.getElem?_cons_succ] at l1 l2 l3 l4
    have hlen := alenS_ints hd1
    have hlen2 := alenS_ints hd2
    have hb : d.length ≤ 1152921504606846976 := ints_len hd1
    have hix := aidxS_ints hd1 .i64
    have hld := aload_nth T2 rfl hd1
    have hix2 := aidxS_ints hd2 .i64
    have hld2 := aload_nth T2 rfl hd2
    simp only [← aidx38, ← alen38] at hix hlen hix2 hlen2
    refine ⟨rfl, go ?_⟩
    unfold c39
    simp only [argSl]
    clear hat hat2 hP1 hs hd hs' hd' ht hu
    generalize (H'.new [x, y]).new [x', y'] = H2 at *
    generalize (H'.new [x, y]).bs.length = b2 at *
    generalize (H'.new [x, y]).c = ver2 at *
    generalize H'.new [x, y] = H1 at *
    generalize H'.bs.length = b at l1 l2 hbx
    generalize H'.c = ver at l1 l2 hbx
    replace hP := Hide.mk hP
    clear hd1 hd2
    rcases hss : sameL s s' with _ | _
    · repeat' (first | apply goSeq | apply goReg | apply goSeqN | apply goSeqR | apply goSkip | apply goRet | apply goNil | apply goBlock | apply goExit | apply goBlkN | apply goBlkR | apply goBlkE | apply goSeqE | apply goLoopR | apply goLoopE | (apply goOp; (· (simp [*]; try exact rfl)); (· exact rfl)) | (apply goOp0; (· (simp [*]; try exact rfl)); (· exact rfl)) | (apply goYes; (· (simp [*]; done)); (· (simp [*]; try exact rfl)); (· exact rfl)) | (apply goNo; (· (simp [*]; done))) | (apply goNoU; (· (simp; exact rfl))) | (apply goIfT; (· (simp [*]; done))) | (apply goIfF; (· (simp [*]; done))) | (apply goIf; (· (simp; exact rfl)); (· with_reducible exact rfl)) | (apply goSplit; (· (simp; exact rfl)); (· with_reducible exact rfl)) | (apply goIfQ; (· (simp; exact rfl)); (· exact rfl)) | (apply goSplitQ; (· (simp; exact rfl)); (· exact rfl)) | (apply goBlkX; (· rfl)) | intro _)
      refine goEnd hw hP.out (by simp) (by simp [rs39]; exact rfl) rfl ?_
      simp [sameT, hss]
    by_cases hll : d.length = d'.length
    · have hres : sameT (s, d) (s', d') = sameGo d d' := by simp [sameT, sameL, hll]; intro _; have := hss; simp [sameL] at this; exact this
      have hll' : (d'.length : Int) = d.length := by omega
      rw [hres]
      rw [hll'] at hix2 hld2 hlen2
      clear hll hll' hres
      repeat' (first | apply goSeq | apply goReg | apply goSeqN | apply goSeqR | apply goSkip | apply goRet | apply goNil | apply goBlock | apply goExit | apply goBlkN | apply goBlkR | apply goBlkE | apply goSeqE | apply goLoopR | apply goLoopE | (apply goOp; (· (simp [*]; try exact rfl)); (· exact rfl)) | (apply goOp0; (· (simp [*]; try exact rfl)); (· exact rfl)) | (apply goYes; (· (simp [*]; done)); (· (simp [*]; try exact rfl)); (· exact rfl)) | (apply goNo; (· (simp [*]; done))) | (apply goNoU; (· (simp; exact rfl))) | (apply goIfT; (· (simp [*]; done))) | (apply goIfF; (· (simp [*]; done))) | (apply goIf; (· (simp; exact rfl)); (· with_reducible exact rfl)) | (apply goSplit; (· (simp; exact rfl)); (· with_reducible exact rfl)) | (apply goIfQ; (· (simp; exact rfl)); (· exact rfl)) | (apply goSplitQ; (· (simp; exact rfl)); (· exact rfl)) | (apply goBlkX; (· rfl)) | intro _)
      refine goLoop (fun m s1 G => G = H2 ∧ ∃ (i : Nat), m = d.length - i ∧ i ≤ d.length ∧ get s1 2 = .ptr b ver 0 ∧ get s1 3 = .ptr b2 ver2 0 ∧ get s1 5 = .int .i64 i ∧ sameGo (d.drop i) (d'.drop i) = sameGo d d') d.length ?_ ?_
      · exact ⟨rfl, 0, rfl, Nat.zero_le _, rfl, rfl, rfl, by simp⟩
      · rintro m s1 G ⟨rfl, i, hm, hi, g3, g9, g10, hgo⟩
        simp only [cut_cons, cut_nil, g3, g9, g10]
        have hi0 : (0 : Int) ≤ i := Int.natCast_nonneg i
        have hd := fun h => drop_nth d i h
        have hnil : ¬ i < d.length → d.drop i = [] := fun h => List.drop_of_length_le (by omega)
        have hw1 : w ((i : Int) + 1) = ((i + 1 : Nat) : Int) := w_id (by omega)
        clear g3 g9 g10
        replace hgo := Hide.mk hgo
        repeat' (first | apply goSeq | apply goReg | apply goSeqN | apply goSeqR | apply goSkip | apply goRet | apply goNil | apply goBlock | apply goExit | apply goBlkN | apply goBlkR | apply goBlkE | apply goSeqE | apply goLoopR | apply goLoopE | (apply goOp; (· (simp [*]; try exact rfl)); (· exact rfl)) | (apply goOp0; (· (simp [*]; try exact rfl)); (· exact rfl)) | (apply goYes; (· (simp [*]; done)); (· (simp [*]; try exact rfl)); (· exact rfl)) | (apply goNo; (· (simp [*]; done))) | (apply goNoU; (· (simp; exact rfl))) | (apply goIfT; (· (simp [*]; done))) | (apply goIfF; (· (simp [*]; done))) | (apply goIf; (· (simp; exact rfl)); (· with_reducible exact rfl)) | (apply goSplit; (· (simp; exact rfl)); (· with_reducible exact rfl)) | (apply goIfQ; (· (simp; exact rfl)); (· exact rfl)) | (apply goSplitQ; (· (simp; exact rfl)); (· exact rfl)) | (apply goBlkX; (· rfl)) | intro _)
        all_goals replace hgo := hgo.out
        all_goals (try simp only [Bool.not_eq_true', decide_eq_false_iff_not, Bool.not_eq_false', decide_eq_true_eq] at *)
        all_goals first
          | (refine goEnd hw hP.out (by simp) (by simp [rs39]; exact rfl) rfl ?_; rw [← hgo]; simp [sameGo, nth_drop, hd, hnil, *]; done)
          | (refine goLoopN (d.length - (i + 1)) (by omega) ⟨rfl, i + 1, rfl, by omega, rfl, rfl, rfl, ?_⟩; rw [← hgo]; simp [sameGo, nth_drop, hd, *])
    · repeat' (first | apply goSeq | apply goReg | apply goSeqN | apply goSeqR | apply goSkip | apply goRet | apply goNil | apply goBlock | apply goExit | apply goBlkN | apply goBlkR | apply goBlkE | apply goSeqE | apply goLoopR | apply goLoopE | (apply goOp; (· (simp [*]; try exact rfl)); (· exact rfl)) | (apply goOp0; (· (simp [*]; try exact rfl)); (· exact rfl)) | (apply goYes; (· (simp [*]; done)); (· (simp [*]; try exact rfl)); (· exact rfl)) | (apply goNo; (· (simp [*]; done))) | (apply goNoU; (· (simp; exact rfl))) | (apply goIfT; (· (simp [*]; done))) | (apply goIfF; (· (simp [*]; done))) | (apply goIf; (· (simp; exact rfl)); (· with_reducible exact rfl)) | (apply goSplit; (· (simp; exact rfl)); (· with_reducible exact rfl)) | (apply goIfQ; (· (simp; exact rfl)); (· exact rfl)) | (apply goSplitQ; (· (simp; exact rfl)); (· exact rfl)) | (apply goBlkX; (· rfl)) | intro _)
      · refine goEnd hw hP.out (by simp) (by simp [rs39]; exact rfl) rfl ?_
        simp [sameT, sameL, hll]
      · rename_i hc
        simp at hc
        omega
  · cases hv
@[simp] theorem F39_at (t u : AV) (H : Hp) : F39 [t, u] H = (tens H t).bind fun p => (tens H u).map fun q => .bool (sameT p q) := rfl
/- Structs and lists that a function makes, for tensors. -/
section
variable {E : Env} {sh : Bool} {s : Sl} {H : Hp}
@[simp] theorem xdo_alloc40 : xdo E T sh (.alloc 40) s H = some (.ptr H.bs.length H.c 0, H.new [.nilS, .nilS]) := by simp [xdo, aop, T40]
def bld40 (x y : AV) : Option AV := (afill (fun j => ([(0, 22), (1, 38)][j]?).bind fun f => (T f.2).map fun i => (f.1, i.size)) [.nilS, .nilS] [(0, x), (1, y)]).map .agg
theorem bld40_one {x y : AV} (hx : x.one = true) (hy : y.one = true) : bld40 x y = some (.agg [x, y]) := by
  have hx' : x.cells = [x] := by cases x <;> first | rfl | cases hx
  have hy' : y.cells = [y] := by cases y <;> first | rfl | cases hy
  simp [bld40, afill, T22, T38, hx', hy', hx, hy, setAll]
@[simp] theorem xdo_bld40 (x y : Operand) : xdo E T sh (.build 40 #[(0, x), (1, y)]) s H = (bld40 (ev s x) (ev s y)).map fun v => (v, H) := by
  simp only [xdo, aop, T40, bld40, Option.map_map]
  rfl
@[simp] theorem xdo_bld40_0 : xdo E T sh (.build 40 #[]) s H = some (.agg [.nilS, .nilS], H) := by
  simp [xdo, aop, T40, afill]
def bld40a (x : AV) : Option AV := (afill (fun j => ([(0, 22), (1, 38)][j]?).bind fun f => (T f.2).map fun i => (f.1, i.size)) [.nilS, .nilS] [(0, x)]).map .agg
theorem bld40a_one {x : AV} (hx : x.one = true) : bld40a x = some (.agg [x, .nilS]) := by
  have hx' : x.cells = [x] := by cases x <;> first | rfl | cases hx
  simp [bld40a, afill, T22, T38, hx', hx, setAll]
@[simp] theorem xdo_bld40a (x : Operand) : xdo E T sh (.build 40 #[(0, x)]) s H = (bld40a (ev s x)).map fun v => (v, H) := by
  simp only [xdo, aop, T40, bld40a, Option.map_map]
  rfl
@[simp] theorem xdo_bs1_38 (x : Operand) : xdo E T sh (.buildSlice 38 1 #[(0, x)]) s H = abs1 (ev s x) H := by
  simp [xdo, aop, D38, T2, rep, abs1]
end
@[simp] theorem xres_cell (T : Tab) (s : Sl) (H : Hp) (a t : Nat) (l : List ResultVar) : xres T s H (.cell a t :: l) = (aload T t (get s a) H).bind fun v => (xres T s H l).map (v :: ·) := by
  simp only [xres]; cases aload T t (get s a) H <;> rfl
theorem aapp38 (sh : Bool) (x y : AV) (H : Hp) : aapp T sh 38 38 x y H = aapp T sh 22 22 x y H := by simp [aapp, D38, T2, D22, T3]
theorem amake38 (l c : AV) (H : Hp) : amake T 38 l c H = amake T 22 l c H := by simp [amake, D38, T2, D22, T3]
theorem st40 {H : Hp} {b ver : Nat} {x y x' y' : AV} (h : H.at b ver = some ⟨ver, [x', y'], true, true⟩) (hx : x.one = true) (hy : y.one = true) : astore T 40 (.ptr b ver 0) (.agg [x, y]) H = some (H.put b ⟨ver, [x, y], true, true⟩) := by
  simp only [astore, T40, h]
  rw [if_pos (by simp [AV.cells, hx, hy])]
  simp [setAll, AV.cells]
theorem st38_1 {H : Hp} {b ver : Nat} {x y y' : AV} (h : H.at b ver = some ⟨ver, [x, y'], true, true⟩) (hy : y.one = true) : astore T 38 (.ptr b ver 1) y H = some (H.put b ⟨ver, [x, y], true, true⟩) := by
  have hy' : y.cells = [y] := by cases y <;> first | rfl | cases hy
  simp only [astore, T38, h]
  rw [if_pos (by simp [hy', hy])]
  simp [setAll, hy']
/-- A block of one's own is written. -/
theorem OwnC.wr {H0 H : Hp} {b ver : Nat} {cs : List AV} (hw0 : Wf H0) (he : Ext H0 H) (h : OwnC H0 H b ver cs) (cs' : List AV) : OwnC H0 (H.put b ⟨ver, cs', true, true⟩) b ver cs' ∧ Ext H0 (H.put b ⟨ver, cs', true, true⟩) := by
  obtain ⟨g1, g2⟩ := Hp.at_some h.at'
  have hb := (List.getElem?_eq_some_iff.1 g1).1
  refine ⟨⟨h.new, by simp [Hp.at, Hp.put, hb]⟩, ?_, ?_, he.c⟩
  · intro i k hi
    have h1 := he.pre i k hi
    show (H.bs.set b _)[i]? = some k
    by_cases hib : b = i
    · subst hib
      rw [g1] at h1
      cases h1
      exact absurd (hw0 b _ hi) (Nat.not_lt.2 h.new)
    · rw [List.getElem?_set_ne hib]; exact h1
  · intro i k hi
    simp only [Hp.put] at hi ⊢
    by_cases hib : b = i
    · subst hib
      simp [hb] at hi
      subst hi
      exact (he.wf b _ g1 : ver < H.c)
    · rw [List.getElem?_set_ne hib] at hi
      exact he.wf i k hi
theorem OwnC.ext {H0 H H' : Hp} {b ver : Nat} {cs : List AV} (hp : Pre H H') (h : OwnC H0 H b ver cs) : OwnC H0 H' b ver cs := ⟨h.new, hp.at h.at'⟩
theorem OwnC.lt {H0 H : Hp} {b ver : Nat} {cs : List AV} (h : OwnC H0 H b ver cs) : b < H.bs.length := (List.getElem?_eq_some_iff.1 (Hp.at_some h.at').1).1
/-- What one block says is not said of another. -/
theorem Hp.at_ne {H : Hp} {b b' ver ver' : Nat} {k k' : Blk} (h : H.at b ver = some k) (h' : H.at b' ver' = some k') (hv : ver ≠ ver') : b ≠ b' := by
  intro e
  subst e
  obtain ⟨g1, g2⟩ := Hp.at_some h
  obtain ⟨g3, g4⟩ := Hp.at_some h'
  rw [g1] at g3
  cases g3
  exact hv (g2.symm.trans g4)
mutual
/-- A value's blocks are not touched where another block is written. -/
theorem Rep.put {c : Nat} {H : Hp} {b ver : Nat} {k0 k1 : Blk} (hk : H.at b ver = some k0) : ∀ (t : Tr) {v : AV} {bs : List (Nat × Nat)}, (∀ p ∈ bs, p.2 ≠ ver) → Rep c H t v bs → Rep c (H.put b k1) t v bs
  | .at a, v, bs, hn, h => by simpa only [Rep] using h
  | .sl n es full cs, v, bs, hn, h => by
    simp only [Rep] at h ⊢
    obtain ⟨b', ver', vs, bs', e1, e2, e3, e4, rfl⟩ := h
    refine ⟨b', ver', vs, bs', e1, e2, ?_, Reps.put hk cs (fun p hp => hn p (by simp [hp])) e4, rfl⟩
    rw [at_put (Hp.at_ne e3 hk (hn (b', ver') (by simp)))]; exact e3
  | .bx cs, v, bs, hn, h => by
    simp only [Rep] at h ⊢
    obtain ⟨b', ver', vs, bs', e1, e2, e3, e4, rfl⟩ := h
    refine ⟨b', ver', vs, bs', e1, e2, ?_, Reps.put hk cs (fun p hp => hn p (by simp [hp])) e4, rfl⟩
    rw [at_put (Hp.at_ne e3 hk (hn (b', ver') (by simp)))]; exact e3
  | .agg cs, v, bs, hn, h => by
    simp only [Rep] at h ⊢
    obtain ⟨vs, e1, e4⟩ := h
    exact ⟨vs, e1, Reps.put hk cs hn e4⟩
  | .tup cs, v, bs, hn, h => by
    simp only [Rep] at h ⊢
    obtain ⟨vs, e1, e4⟩ := h
    exact ⟨vs, e1, Reps.put hk cs hn e4⟩
theorem Reps.put {c : Nat} {H : Hp} {b ver : Nat} {k0 k1 : Blk} (hk : H.at b ver = some k0) : ∀ (l : List Tr) {vs : List AV} {bs : List (Nat × Nat)}, (∀ p ∈ bs, p.2 ≠ ver) → Reps c H l vs bs → Reps c (H.put b k1) l vs bs
  | [], vs, bs, hn, h => by simpa only [Reps] using h
  | t :: l, vs, bs, hn, h => by
    simp only [Reps] at h ⊢
    obtain ⟨v, vs', b1, b2, e1, e2, e3, rfl⟩ := h
    exact ⟨v, vs', b1, b2, e1, Rep.put hk t (fun p hp => hn p (by simp [hp])) e2, Reps.put hk l (fun p hp => hn p (by simp [hp])) e3, rfl⟩
end
/-- A copied list. -/
def trC (l : List Int) : Tr := if l = [] then trF [] else trS l
theorem okT_C (c : Nat) (l : List Int) : okT c (trC l) = true := by
  unfold trC; split
  · exact okT_F c []
  · exact okT_S c l
theorem repL_ints {c : Nat} {H : Hp} {l : List Int} {v : AV} {bs : List (Nat × Nat)} (hl : l.length ≤ 1152921504606846976) (h : Rep c H (trS l) v bs ∨ Rep c H (trF l) v bs ∨ Rep c H (trC l) v bs) : ints H v = some l := by
  have hS : ∀ {l : List Int}, l.length ≤ 1152921504606846976 → Rep c H (trS l) v bs → ints H v = some l := by
    intro l hl h
    rcases rep_S.1 h with ⟨rfl, rfl, _⟩ | ⟨b, ver, rfl, h2, h3, h4, _⟩
    · rfl
    · exact ints_of_own (H0 := ⟨[], c⟩) (.inr ⟨b, ver, rfl, h2, h3, h4⟩) hl
  have hF : ∀ {l : List Int}, l.length ≤ 1152921504606846976 → Rep c H (trF l) v bs → ints H v = some l := by
    intro l hl h
    obtain ⟨b, ver, rfl, h2, h3, _⟩ := rep_F.1 h
    exact ints_of_ownF (H0 := ⟨[], c⟩) ⟨b, ver, rfl, h2, h3⟩ hl
  rcases h with h | h | h
  · exact hS hl h
  · exact hF hl h
  · unfold trC at h
    split at h
    · rename_i e; subst e; exact hF hl h
    · exact hS hl h
/-- A list is copied behind an empty one. -/
theorem clone_own {H0 H : Hp} {y : AV} {m : List Int} (he : Ext H0 H) (hm : ints H y = some m) (hl : m.length < 1099511627776) :
    ∃ v' H' bs, aapp T false 22 22 (.sl H.bs.length H.c 0 0 1 true) y (H.new []) = some (v', H') ∧ Rep H.c H' (trC m) v' bs ∧ Fresh H.c H'.c bs ∧ Ext H H' := by
  have he1 : Ext H (H.new []) := (Ext.refl he.wf).new _
  have hm1 := ints_ext he1.pre hm
  have hx := ints_cells hm1
  have hat := new_at H []
  by_cases h0 : m = []
  · subst h0
    refine ⟨.sl H.bs.length H.c 0 0 1 true, H.new [], [(H.bs.length, H.c)], ?_, ?_, Fresh.one (Nat.le_refl _) (Nat.lt_succ_self _), he1⟩
    · simp only [aapp, D22, T3, Option.bind_some, aappend, hx]
      simp
    · unfold trC
      rw [if_pos rfl]
      exact rep_F.2 ⟨_, _, rfl, Nat.le_refl _, hat, rfl⟩
  · have hne : m.length ≠ 0 := by simpa using h0
    refine ⟨.sl (H.new []).bs.length (H.new []).c 0 m.length 1 false, (H.new []).new (m.map (.int .i64)), [((H.new []).bs.length, (H.new []).c)], ?_, ?_, ?_, he1.new _⟩
    · simp only [aapp, D22, T3, Option.bind_some, aappend, hx, hat]
      simp [hne, maxBytes, h0]
      omega
    · unfold trC
      rw [if_neg h0]
      exact rep_S.2 (.inr ⟨_, _, rfl, he1.c, h0, new_at _ _, rfl⟩)
    · exact Fresh.one he1.c (Nat.lt_succ_self _)
theorem mk_agg2 (a b : Tr) (H : Hp) : mk (.agg [a, b]) H = (.agg [(mk a H).1, (mk b (mk a H).2).1], (mk b (mk a H).2).2) := by simp [mk, mks]
theorem rep_agg2 {c : Nat} {H : Hp} {a b : Tr} {v : AV} {bs : List (Nat × Nat)} : Rep c H (.agg [a, b]) v bs ↔ ∃ x y b1 b2, v = .agg [x, y] ∧ Rep c H a x b1 ∧ Rep c H b y b2 ∧ bs = b1 ++ b2 := by
  simp only [Rep, Reps]
  constructor
  · rintro ⟨vs, rfl, v, vs', b1, b2, rfl, h1, ⟨w, vs'', b3, b4, rfl, h2, ⟨rfl, rfl⟩, rfl⟩, rfl⟩
    exact ⟨v, w, b1, b3, rfl, h1, h2, by simp⟩
  · rintro ⟨x, y, b1, b2, rfl, h1, h2, rfl⟩
    exact ⟨_, rfl, x, [y], b1, b2, rfl, h1, ⟨y, [], b2, [], rfl, h2, ⟨rfl, rfl⟩, by simp⟩, rfl⟩
/-- Lists of numbers of any make. -/
def isL (t : Tr) (l : List Int) : Prop := t = trS l ∨ t = trF l ∨ t = trC l
theorem isL.ok {t : Tr} {l : List Int} (h : isL t l) (c : Nat) : okT c t = true := by
  rcases h with rfl | rfl | rfl
  · exact okT_S c l
  · exact okT_F c l
  · exact okT_C c l
theorem isL.ints {t : Tr} {l : List Int} (h : isL t l) {c : Nat} {H : Hp} {v : AV} {bs : List (Nat × Nat)} (hl : l.length ≤ 1152921504606846976) (hr : Rep c H t v bs) : Pq.ints H v = some l := by
  rcases h with rfl | rfl | rfl
  · exact repL_ints hl (.inl hr)
  · exact repL_ints hl (.inr (.inl hr))
  · exact repL_ints hl (.inr (.inr hr))
/-- A tensor that was handed back. -/
theorem mk_tens {H : Hp} (hw : Wf H) {a b : Tr} {s d : List Int} (ha : isL a s) (hb : isL b d) (hs : s.length ≤ 1152921504606846976) (hd : d.length ≤ 1152921504606846976) :
    ∃ bs, Rep H.c (mk (.agg [a, b]) H).2 (.agg [a, b]) (mk (.agg [a, b]) H).1 bs ∧ Fresh H.c (mk (.agg [a, b]) H).2.c bs ∧ Ext H (mk (.agg [a, b]) H).2 ∧ tens (mk (.agg [a, b]) H).2 (mk (.agg [a, b]) H).1 = some (s, d) := by
  obtain ⟨bs, h1, h2, h3⟩ := mk_rep (.agg [a, b]) (c0 := 0) hw (Nat.zero_le _) (by simp [okT, okTs, ha.ok, hb.ok])
  refine ⟨bs, h1, h2, h3, ?_⟩
  obtain ⟨x, y, b1, b2, e, r1, r2, _⟩ := rep_agg2.1 h1
  rw [e]
  exact tens_of (ha.ints hs r1) (hb.ints hd r2)
/-! ### what stays -/
def Keeps (H H' : Hp) (b ver : Nat) : Prop := ∀ k, H.at b ver = some k → H'.at b ver = some k
theorem Keeps.pre {H H' : Hp} (h : Pre H H') (b ver : Nat) : Keeps H H' b ver := fun _ hk => h.at hk
theorem Keeps.trans {A B C : Hp} {b ver : Nat} (h : Keeps A B b ver) (k : Keeps B C b ver) : Keeps A C b ver := fun x hx => k x (h x hx)
theorem Keeps.put {H : Hp} {b ver b' ver' : Nat} {k k' : Blk} (hk : H.at b ver = some k) (hv : ver' ≠ ver) : Keeps H (H.put b k') b' ver' := by
  intro x hx
  rw [at_put (Hp.at_ne hx hk hv)]; exact hx
mutual
theorem Rep.keep {c : Nat} {H H' : Hp} : ∀ (t : Tr) {v : AV} {bs : List (Nat × Nat)}, (∀ p ∈ bs, Keeps H H' p.1 p.2) → Rep c H t v bs → Rep c H' t v bs
  | .at a, v, bs, hn, h => by simpa only [Rep] using h
  | .sl n es full cs, v, bs, hn, h => by
    simp only [Rep] at h ⊢
    obtain ⟨b', ver', vs, bs', e1, e2, e3, e4, rfl⟩ := h
    exact ⟨b', ver', vs, bs', e1, e2, hn (b', ver') (by simp) _ e3, Reps.keep cs (fun p hp => hn p (by simp [hp])) e4, rfl⟩
  | .bx cs, v, bs, hn, h => by
    simp only [Rep] at h ⊢
    obtain ⟨b', ver', vs, bs', e1, e2, e3, e4, rfl⟩ := h
    exact ⟨b', ver', vs, bs', e1, e2, hn (b', ver') (by simp) _ e3, Reps.keep cs (fun p hp => hn p (by simp [hp])) e4, rfl⟩
  | .agg cs, v, bs, hn, h => by
    simp only [Rep] at h ⊢
    obtain ⟨vs, e1, e4⟩ := h
    exact ⟨vs, e1, Reps.keep cs hn e4⟩
  | .tup cs, v, bs, hn, h => by
    simp only [Rep] at h ⊢
    obtain ⟨vs, e1, e4⟩ := h
    exact ⟨vs, e1, Reps.keep cs hn e4⟩
theorem Reps.keep {c : Nat} {H H' : Hp} : ∀ (l : List Tr) {vs : List AV} {bs : List (Nat × Nat)}, (∀ p ∈ bs, Keeps H H' p.1 p.2) → Reps c H l vs bs → Reps c H' l vs bs
  | [], vs, bs, hn, h => by simpa only [Reps] using h
  | t :: l, vs, bs, hn, h => by
    simp only [Reps] at h ⊢
    obtain ⟨v, vs', b1, b2, e1, e2, e3, rfl⟩ := h
    exact ⟨v, vs', b1, b2, e1, Rep.keep t (fun p hp => hn p (by simp [hp])) e2, Reps.keep l (fun p hp => hn p (by simp [hp])) e3, rfl⟩
end
theorem OwnC.keep {H0 H H' : Hp} {b ver : Nat} {cs : List AV} (hk : Keeps H H' b ver) (h : OwnC H0 H b ver cs) : OwnC H0 H' b ver cs := ⟨h.new, hk _ h.at'⟩
theorem Own.keep {H0 H H' : Hp} {v : AV} {l : List Int} (hk : ∀ b ver, H0.c ≤ ver → Keeps H H' b ver) (h : Own H0 H v l) : Own H0 H' v l := by
  rcases h with h | ⟨b, ver, h1, h2, h3, h4⟩
  · exact .inl h
  · exact .inr ⟨b, ver, h1, h2, h3, hk b ver h2 _ h4⟩
theorem OwnF.keep {H0 H H' : Hp} {v : AV} {l : List Int} (hk : ∀ b ver, H0.c ≤ ver → Keeps H H' b ver) (h : OwnF H0 H v l) : OwnF H0 H' v l := by
  obtain ⟨b, ver, h1, h2, h4⟩ := h
  exact ⟨b, ver, h1, h2, hk b ver h2 _ h4⟩
/-- The memory as it was, at a later time. -/
def Hp.till (H : Hp) (c : Nat) : Hp := ⟨H.bs, c⟩
theorem Wf.till {H : Hp} (h : Wf H) {c : Nat} (hc : H.c ≤ c) : Wf (H.till c) := fun b k hk => Nat.lt_of_lt_of_le (h b k hk) hc
theorem Ext.till {H0 H : Hp} (h : Ext H0 H) {c : Nat} (hc : c ≤ H.c) : Ext (H0.till c) H := ⟨h.pre, h.wf, hc⟩
theorem Ext.untill {H0 H : Hp} {c : Nat} (h : Ext (H0.till c) H) (hc : H0.c ≤ c) : Ext H0 H := ⟨h.pre, h.wf, Nat.le_trans hc h.c⟩
/-- As app_own; and what is older stays. -/
theorem app_own2 {H0 H : Hp} {v : AV} {l : List Int} (hw0 : Wf H0) (he : Ext H0 H) (h : Own H0 H v l) (hl : l.length < 1099511627776) (n : Int) :
    ∃ v' H', aapp T false 22 22 v (.sl H.bs.length H.c 0 1 1 true) (H.new [.int .i64 n]) = some (v', H') ∧ Own H0 H' v' (l ++ [n]) ∧ Ext H0 H' ∧ ∀ b ver, ver < H0.c → Keeps H H' b ver := by
  have hx : slCells (H.new [.int .i64 n]) (.sl H.bs.length H.c 0 1 1 true) = some (1, [.int .i64 n]) := by
    simp [slCells, new_at]
  have he1 : Ext H0 (H.new [.int .i64 n]) := he.new _
  rcases h with ⟨rfl, rfl⟩ | ⟨b, ver, rfl, hv, hne, hk⟩
  · refine ⟨.sl (H.new [.int .i64 n]).bs.length (H.new [.int .i64 n]).c 0 1 1 false, (H.new [.int .i64 n]).new [.int .i64 n], ?_, ?_, he1.new _, ?_⟩
    · simp only [aapp, D22, T3, Option.bind_some, aappend, hx]
      simp [maxBytes]
    · exact .inr ⟨_, _, rfl, he1.c, by simp, new_at _ _⟩
    · intro b' ver' _ k hk
      exact at_new (at_new hk _) _
  · have hk' := at_new hk [.int .i64 n]
    obtain ⟨g1, g2⟩ := Hp.at_some hk'
    have hb := (List.getElem?_eq_some_iff.1 g1).1
    refine ⟨.sl b (H.new [.int .i64 n]).c 0 (l.length + 1) 1 false, ⟨(H.new [.int .i64 n]).bs.set b ⟨(H.new [.int .i64 n]).c, l.map (.int .i64) ++ [.int .i64 n], true, true⟩, (H.new [.int .i64 n]).c + 1⟩, ?_, ?_, ?_, ?_⟩
    · simp only [aapp, D22, T3, Option.bind_some, aappend, hx, hk']
      simp [maxBytes]
      omega
    · refine .inr ⟨b, _, by simp, he1.c, by simp, ?_⟩
      simp [Hp.at, hb]
    · refine ⟨?_, ?_, Nat.le_succ_of_le he1.c⟩
      · intro i k hi
        have h1 := he1.pre i k hi
        show ((H.new [.int .i64 n]).bs.set b _)[i]? = some k
        by_cases hib : b = i
        · subst hib
          rw [g1] at h1
          cases h1
          exact absurd (hw0 b _ hi) (Nat.not_lt.2 hv)
        · rw [List.getElem?_set_ne hib]; exact h1
      · intro i k hi
        by_cases hib : b = i
        · subst hib
          simp [hb] at hi
          subst hi
          exact Nat.lt_succ_self _
        · simp only [List.getElem?_set_ne hib] at hi
          exact Nat.lt_succ_of_lt (he1.wf i k hi)
    · intro b' ver' hlt k hk2
      have hk3 := at_new hk2 [.int .i64 n]
      have hbb : b' ≠ b := Hp.at_ne hk3 hk' (by omega)
      have : (⟨(H.new [.int .i64 n]).bs.set b ⟨(H.new [.int .i64 n]).c, l.map (.int .i64) ++ [.int .i64 n], true, true⟩, (H.new [.int .i64 n]).c + 1⟩ : Hp).at b' ver' = (H.new [.int .i64 n]).at b' ver' := by
        simp only [Hp.at]; rw [List.getElem?_set_ne (fun e => hbb e.symm)]
      rw [this]; exact hk3
theorem Own.repS {H0 H : Hp} {v : AV} {l : List Int} (hw : Wf H) (h : Own H0 H v l) : ∃ bs, Rep H0.c H (trS l) v bs ∧ Fresh H0.c H.c bs := by
  rcases h with ⟨rfl, rfl⟩ | ⟨b, ver, rfl, h2, h3, h4⟩
  · exact ⟨[], rep_S.2 (.inl ⟨rfl, rfl, rfl⟩), Fresh.nil _ _⟩
  · exact ⟨[(b, ver)], rep_S.2 (.inr ⟨b, ver, rfl, h2, h3, h4, rfl⟩), Fresh.one h2 (at_lt hw h4)⟩
theorem OwnF.repF {H0 H : Hp} {v : AV} {l : List Int} (hw : Wf H) (h : OwnF H0 H v l) : ∃ bs, Rep H0.c H (trF l) v bs ∧ Fresh H0.c H.c bs := by
  obtain ⟨b, ver, rfl, h2, h4⟩ := h
  exact ⟨[(b, ver)], rep_F.2 ⟨b, ver, rfl, h2, h4, rfl⟩, Fresh.one h2 (at_lt hw h4)⟩
theorem own_one {H0 H : Hp} {v : AV} {l : List Int} (h : Own H0 H v l) : v.one = true := by
  rcases h with ⟨_, rfl⟩ | ⟨b, ver, rfl, _⟩ <;> rfl
theorem ownF_one {H0 H : Hp} {v : AV} {l : List Int} (h : OwnF H0 H v l) : v.one = true := by
  obtain ⟨b, ver, rfl, _⟩ := h; rfl
/- Walks: copied lists, filled tensors. -/
theorem eqnil_sl (b ver o n es : Nat) (f : Bool) : abin T .eql 22 (.sl b ver o n es f) .nilS = some (.bool false) := by simp [abin, D22, anilS]
theorem eqnil_nil : abin T .eql 22 .nilS .nilS = some (.bool true) := by simp [abin, D22, anilS]
def F103 (args : List AV) (H : Hp) : Option (AV × Hp) := match args with
  | [.nilS] => some (.nilS, H)
  | [.sl b ver o n es f] => (ints H (.sl b ver o n es f)).bind fun l => if l.length < 1099511627776 then some (mk (trC l) H) else none
  | _ => none
theorem snd103 : Sound Try.prog 103 (FSem.eff F103).run := by
  refine sound_of hT (EOK_nil _) mixed A103 Try.func103 hb103 (by kernel_rfl) (by kernel_rfl) (by kernel_rfl) (by kernel_rfl) sh103 1 (by kernel_rfl) rs103 hr103 ?_
  intro args H r H' hw h
  have hv : F103 args H = some (r, H') := h
  clear h
  unfold F103 at hv
  have e1 := eqnil_sl
  have e2 := eqnil_nil
  have hb0 := @xdo_bs22_0
  split at hv
  · cases hv
    refine ⟨rfl, go ?_⟩
    unfold c103
    simp only [argSl]
    repeat' (first | apply goSeq | apply goReg | apply goSeqN | apply goSeqR | apply goSkip | apply goRet | apply goNil | apply goBlock | apply goExit | apply goBlkN | apply goBlkR | apply goBlkE | apply goSeqE | apply goLoopR | apply goLoopE | (apply goOp; (· (simp [*]; try exact rfl)); (· exact rfl)) | (apply goOp0; (· (simp [*]; try exact rfl)); (· exact rfl)) | (apply goYes; (· (simp [*]; done)); (· (simp [*]; try exact rfl)); (· exact rfl)) | (apply goNo; (· (simp [*]; done))) | (apply goNoU; (· (simp; exact rfl))) | (apply goIfT; (· (simp [*]; done))) | (apply goIfF; (· (simp [*]; done))) | (apply goIf; (· (simp; exact rfl)); (· with_reducible exact rfl)) | (apply goSplit; (· (simp; exact rfl)); (· with_reducible exact rfl)) | (apply goIfQ; (· (simp; exact rfl)); (· exact rfl)) | (apply goSplitQ; (· (simp; exact rfl)); (· exact rfl)) | (apply goBlkX; (· rfl)) | intro _)
    exact goEndS (l := []) hw (Ext.refl hw) (.inl ⟨rfl, rfl⟩) (by simp) (by simp [rs103]) rfl rfl
  · rename_i b ver o n es f
    obtain ⟨l, hl, hv⟩ := Option.bind_eq_some_iff.1 hv
    split at hv
    rotate_left
    · cases hv
    rename_i hmax
    replace hv := Option.some.inj hv
    obtain ⟨v', H1, bs, e, h1, h2, h3⟩ := clone_own (Ext.refl hw) hl hmax
    replace h1 := Hide.mk h1
    replace h2 := Hide.mk h2
    replace h3 := Hide.mk h3
    replace hv := Hide.mk hv
    refine ⟨rfl, go ?_⟩
    unfold c103
    simp only [argSl]
    repeat' (first | apply goSeq | apply goReg | apply goSeqN | apply goSeqR | apply goSkip | apply goRet | apply goNil | apply goBlock | apply goExit | apply goBlkN | apply goBlkR | apply goBlkE | apply goSeqE | apply goLoopR | apply goLoopE | (apply goOp; (· (simp [*]; try exact rfl)); (· exact rfl)) | (apply goOp0; (· (simp [*]; try exact rfl)); (· exact rfl)) | (apply goYes; (· (simp [*]; done)); (· (simp [*]; try exact rfl)); (· exact rfl)) | (apply goNo; (· (simp [*]; done))) | (apply goNoU; (· (simp; exact rfl))) | (apply goIfT; (· (simp [*]; done))) | (apply goIfF; (· (simp [*]; done))) | (apply goIf; (· (simp; exact rfl)); (· with_reducible exact rfl)) | (apply goSplit; (· (simp; exact rfl)); (· with_reducible exact rfl)) | (apply goIfQ; (· (simp; exact rfl)); (· exact rfl)) | (apply goSplitQ; (· (simp; exact rfl)); (· exact rfl)) | (apply goBlkX; (· rfl)) | intro _)
    exact goEndR (vs := [v']) hw h3.out.pre h1.out h2.out (by simp) (by simp [rs103]) rfl hv.out
  · cases hv
def F70 (args : List AV) (H : Hp) : Option (AV × Hp) := match args with
  | [v, .int .i64 n] => (ints H v).bind fun s => if s.length < 1099511627776 then some (mk (.agg [trC s, trS (List.replicate (sizeOf s).toNat n)]) H) else none
  | _ => none
theorem prodW_rng : ∀ (l : List Int) (n : Int), shapeGo n l = true → prodW n l ≤ 4096 := by
  intro l
  induction l with
  | nil => intro n h; simpa [shapeGo, prodW] using h
  | cons k l ih =>
    intro n h
    simp only [shapeGo] at h
    split at h
    · cases h
    · exact ih _ h
theorem sizeOf_le (l : List Int) : sizeOf l ≤ 4096 := by
  unfold sizeOf
  split
  · rename_i h
    unfold shapeOK at h
    split at h
    · cases h
    · exact prodW_rng l 1 h
  · omega
set_option maxHeartbeats 1000000 in
theorem snd70 : Sound Try.prog 70 (FSem.eff F70).run := by
  refine sound_of hT (EOK_cons snd100 (EOK_nil _)) mixed A70 Try.func70 hb70 (by kernel_rfl) (by kernel_rfl) (by kernel_rfl) (by kernel_rfl) sh70 2 (by kernel_rfl) rs70 hr70 ?_
  intro args H r H' hw h
  have hv : F70 args H = some (r, H') := h
  clear h
  unfold F70 at hv
  split at hv
  · rename_i v x
    obtain ⟨s, hs, hv⟩ := Option.bind_eq_some_iff.1 hv
    split at hv
    rotate_left
    · cases hv
    rename_i hmax
    replace hv := Option.some.inj hv
    have hle := sizeOf_le s
    have hb0 := @xdo_bs22_0
    -- the result's cell
    have x0 : Ext H (H.new [.nilS, .nilS]) := (Ext.refl hw).new _
    have c0 : OwnC H (H.new [.nilS, .nilS]) H.bs.length H.c [.nilS, .nilS] := ⟨Nat.le_refl _, new_at _ _⟩
    have hvlt : H.c < (H.new [AV.nilS, AV.nilS]).c := Nat.lt_succ_self _
    generalize hH0 : H.new [.nilS, .nilS] = H0 at *
    generalize hp0 : H.bs.length = p0 at *
    generalize hq0 : H.c = q0 at *
    have hs0 := ints_ext x0.pre hs
    -- the shape
    obtain ⟨shv, H1, bsh, e1, r1, f1, x1⟩ := clone_own x0 hs0 hmax
    have hone : shv.one = true := ints_one' (isL.ints (.inr (.inr rfl)) (by omega) r1)
    have hbd := bld40a_one hone
    -- the tensor
    have c2 : OwnC H1 (H1.new [.nilS, .nilS]) H1.bs.length H1.c [.nilS, .nilS] := ⟨Nat.le_refl _, new_at _ _⟩
    have x2 : Ext H1 (H1.new [.nilS, .nilS]) := (Ext.refl x1.wf).new _
    have st := st40 (x := shv) (y := .nilS) (new_at H1 [.nilS, .nilS]) hone rfl
    obtain ⟨c3, x3⟩ := c2.wr x1.wf x2 [shv, .nilS]
    have hq3 : H1.c < ((H1.new [.nilS, .nilS]).put H1.bs.length ⟨H1.c, [shv, .nilS], true, true⟩).c := Nat.lt_succ_self _
    generalize hH2 : H1.new [.nilS, .nilS] = H2 at *
    generalize hp3 : H1.bs.length = p3 at *
    generalize hq3' : H1.c = q3 at *
    generalize hH3 : H2.put p3 ⟨q3, [shv, .nilS], true, true⟩ = H3 at *
    have c0' := (c0.ext x1.pre).ext x3.pre
    have r1' := Rep.ext x3.pre r1
    have x13 : Ext H H3 := (x0.trans x1).trans x3
    have hwB : Wf (H.till H3.c) := Wf.till hw x13.c
    have xB : Ext (H.till H3.c) H3 := x13.till (Nat.le_refl _)
    have hqq : q0 < q3 := by have := x1.c; omega
    have hH0c : H.c ≤ H0.c := x0.c
    have hHq : H.c ≤ q3 := by have := x0.c; have := x1.c; omega
    replace hv := Hide.mk hv
    replace hs := Hide.mk hs
    replace r1' := Hide.mk r1'
    replace c0' := Hide.mk c0'
    replace c3 := Hide.mk c3
    replace f1 := Hide.mk f1
    refine ⟨rfl, go ?_⟩
    unfold c70
    simp only [argSl]
    clear c2 x2 hs0 r1 c0 x0 x1 x3
    replace xB := Hide.mk xB
    replace x13 := Hide.mk x13
    repeat' (first | apply goSeq | apply goReg | apply goSeqN | apply goSeqR | apply goSkip | apply goRet | apply goNil | apply goBlock | apply goExit | apply goBlkN | apply goBlkR | apply goBlkE | apply goSeqE | apply goLoopR | apply goLoopE | (apply goOp; (· (simp [*]; try exact rfl)); (· exact rfl)) | (apply goOp0; (· (simp [*]; try exact rfl)); (· exact rfl)) | (apply goYes; (· (simp [*]; done)); (· (simp [*]; try exact rfl)); (· exact rfl)) | (apply goNo; (· (simp [*]; done))) | (apply goNoU; (· (simp; exact rfl))) | (apply goIfT; (· (simp [*]; done))) | (apply goIfF; (· (simp [*]; done))) | (apply goIf; (· (simp; exact rfl)); (· with_reducible exact rfl)) | (apply goSplit; (· (simp; exact rfl)); (· with_reducible exact rfl)) | (apply goIfQ; (· (simp; exact rfl)); (· exact rfl)) | (apply goSplitQ; (· (simp; exact rfl)); (· exact rfl)) | (apply goBlkX; (· rfl)) | intro _)
    have hrw : Wf (H.till H3.c) := hwB
    refine goLoop (fun m s1 G => ∃ (i : Nat) (da : AV), m = (sizeOf s).toNat - i ∧ i ≤ (sizeOf s).toNat ∧ get s1 0 = v ∧ get s1 1 = .int .i64 x ∧ get s1 4 = .ptr p0 q0 0 ∧ get s1 5 = .ptr p3 q3 0 ∧ get s1 6 = .int .i64 i ∧ Ext (H.till H3.c) G ∧ OwnC H G p0 q0 [.nilS, .nilS] ∧ OwnC H1 G p3 q3 [shv, da] ∧ Rep H0.c G (trC s) shv bsh ∧ Own (H.till H3.c) G da (List.replicate i x)) (sizeOf s).toNat ?_ ?_
    · exact ⟨0, .nilS, rfl, Nat.zero_le _, rfl, rfl, rfl, rfl, rfl, xB.out, c0'.out, c3.out, r1'.out, .inl ⟨rfl, rfl⟩⟩
    clear hH0 hp0 hq0 hH2 hp3 hH3 e1 st hbd hb0 r1' c0' c3
    rintro m s1 G ⟨i, da, hmm, hi, g1, g2, g3, g4, g5, hx, d0, d3, hr, ho⟩
    simp only [cut_cons, cut_nil, g1, g2, g3, g4, g5]
    clear g1 g2 g3 g4 g5
    have hi0 : (0 : Int) ≤ i := Int.natCast_nonneg i
    have hw1 : w ((i : Int) + 1) = ((i + 1 : Nat) : Int) := w_id (by omega)
    have hsG := ints_ext (hx.untill x13.out.c).pre hs.out
    have l1 := ld38 d3.at' 1
    have l2 := ld40 d3.at'
    simp only [List.getElem?_cons_zero, List.getElem?_cons_succ] at l1
    replace hx := Hide.mk hx
    replace hr := Hide.mk hr
    replace ho := Hide.mk ho
    by_cases hin : (i : Int) < sizeOf s
    · replace d0 := Hide.mk d0
      replace d3 := Hide.mk d3
      repeat' (first | apply goSeq | apply goReg | apply goSeqN | apply goSeqR | apply goSkip | apply goRet | apply goNil | apply goBlock | apply goExit | apply goBlkN | apply goBlkR | apply goBlkE | apply goSeqE | apply goLoopR | apply goLoopE | (apply goOp; (· (simp [*]; try exact rfl)); (· exact rfl)) | (apply goOp0; (· (simp [*]; try exact rfl)); (· exact rfl)) | (apply goYes; (· (simp [*]; done)); (· (simp [*]; try exact rfl)); (· exact rfl)) | (apply goNo; (· (simp [*]; done))) | (apply goNoU; (· (simp; exact rfl))) | (apply goIfT; (· (simp [*]; done))) | (apply goIfF; (· (simp [*]; done))) | (apply goIf; (· (simp; exact rfl)); (· with_reducible exact rfl)) | (apply goSplit; (· (simp; exact rfl)); (· with_reducible exact rfl)) | (apply goIfQ; (· (simp; exact rfl)); (· exact rfl)) | (apply goSplitQ; (· (simp; exact rfl)); (· exact rfl)) | (apply goBlkX; (· rfl)) | intro _)
      obtain ⟨v', G1, e, ho', hx', hk⟩ := app_own2 hwB hx.out ho.out (by simp; omega) x
      refine goOp (v := v') (H' := G1) rfl (by simp [aapp38]; exact e) ?_
      have d3' := d3.out.keep (hk p3 q3 hq3)
      have d0' := d0.out.keep (hk p0 q0 (by show q0 < H3.c; omega))
      have st := st38_1 d3'.at' (own_one ho')
      have hkp : ∀ b' ver', ver' ≠ q3 → Keeps G1 (G1.put p3 ⟨q3, [shv, v'], true, true⟩) b' ver' := fun b' ver' h => Keeps.put d3'.at' h
      clear e
      replace d3' := Hide.mk d3'
      replace ho' := Hide.mk ho'
      replace hx' := Hide.mk hx'
      replace d0' := Hide.mk d0'
      replace hkp := Hide.mk hkp
      replace hk := Hide.mk hk
      repeat' (first | apply goSeq | apply goReg | apply goSeqN | apply goSeqR | apply goSkip | apply goRet | apply goNil | apply goBlock | apply goExit | apply goBlkN | apply goBlkR | apply goBlkE | apply goSeqE | apply goLoopR | apply goLoopE | (apply goOp; (· (simp [*]; try exact rfl)); (· exact rfl)) | (apply goOp0; (· (simp [*]; try exact rfl)); (· exact rfl)) | (apply goYes; (· (simp [*]; done)); (· (simp [*]; try exact rfl)); (· exact rfl)) | (apply goNo; (· (simp [*]; done))) | (apply goNoU; (· (simp; exact rfl))) | (apply goIfT; (· (simp [*]; done))) | (apply goIfF; (· (simp [*]; done))) | (apply goIf; (· (simp; exact rfl)); (· with_reducible exact rfl)) | (apply goSplit; (· (simp; exact rfl)); (· with_reducible exact rfl)) | (apply goIfQ; (· (simp; exact rfl)); (· exact rfl)) | (apply goSplitQ; (· (simp; exact rfl)); (· exact rfl)) | (apply goBlkX; (· rfl)) | intro _)
      refine goLoopN ((sizeOf s).toNat - (i + 1)) (by omega) ⟨i + 1, v', rfl, by omega, rfl, rfl, rfl, rfl, rfl, ?_, ?_, ?_, ?_, ?_⟩
      · exact (OwnC.wr hw (hx'.out.untill x13.out.c) (b := p3) (ver := q3) (cs := [shv, da]) ⟨hHq, d3'.out.at'⟩ [shv, v']).2.till hx'.out.c
      · exact d0'.out.keep (hkp.out p0 q0 (by omega))
      · exact ⟨d3'.out.new, at_put_same d3'.out.at' rfl⟩
      · refine Rep.keep (trC s) (fun p hp => ?_) hr.out
        have hlt := (f1.out.2 p hp).2
        exact (hk.out p.1 p.2 (by show p.2 < H3.c; omega)).trans (hkp.out p.1 p.2 (by omega))
      · rw [List.replicate_succ']
        exact ho'.out.keep fun b' ver' h => hkp.out b' ver' (by have : H3.c ≤ ver' := h; omega)
    · have hin' : i = (sizeOf s).toNat := by omega
      have d0' := d0.at'
      have d3' := d3.at'
      obtain ⟨bd, rd, fd⟩ := ho.out.repS hx.out.wf
      have hod := own_one ho.out
      have st := st40 (x := shv) (y := da) d0' hone hod
      have hkp : ∀ b' ver', ver' ≠ q0 → Keeps G (G.put p0 ⟨q0, [shv, da], true, true⟩) b' ver' := fun b' ver' h => Keeps.put d0' h
      have lr := ld40 (at_put_same (k' := ⟨q0, [shv, da], true, true⟩) d0' rfl)
      have hp := (OwnC.wr hw (hx.out.untill x13.out.c) d0 [shv, da]).2
      replace d0 := Hide.mk d0
      replace d3 := Hide.mk d3
      replace d0' := Hide.mk d0'
      replace d3' := Hide.mk d3'
      replace hkp := Hide.mk hkp
      replace rd := Hide.mk rd
      replace fd := Hide.mk fd
      replace hp := Hide.mk hp
      replace hin' := Hide.mk hin'
      repeat' (first | apply goSeq | apply goReg | apply goSeqN | apply goSeqR | apply goSkip | apply goRet | apply goNil | apply goBlock | apply goExit | apply goBlkN | apply goBlkR | apply goBlkE | apply goSeqE | apply goLoopR | apply goLoopE | (apply goOp; (· (simp [*]; try exact rfl)); (· exact rfl)) | (apply goOp0; (· (simp [*]; try exact rfl)); (· exact rfl)) | (apply goYes; (· (simp [*]; done)); (· (simp [*]; try exact rfl)); (· exact rfl)) | (apply goNo; (· (simp [*]; done))) | (apply goNoU; (· (simp; exact rfl))) | (apply goIfT; (· (simp [*]; done))) | (apply goIfF; (· (simp [*]; done))) | (apply goIf; (· (simp; exact rfl)); (· with_reducible exact rfl)) | (apply goSplit; (· (simp; exact rfl)); (· with_reducible exact rfl)) | (apply goIfQ; (· (simp; exact rfl)); (· exact rfl)) | (apply goSplitQ; (· (simp; exact rfl)); (· exact rfl)) | (apply goBlkX; (· rfl)) | intro _)
      have hin' := hin'.out
      refine goEndR (vs := [.agg [shv, da]]) (bs := bsh ++ bd) (d := G.c) (t := .agg [trC s, trS (List.replicate (sizeOf s).toNat x)]) hw hp.out.pre ?_ ?_ (by simp) (by simp [rs70, lr]) rfl hv.out
      · refine rep_agg2.2 ⟨shv, da, bsh, bd, rfl, ?_, ?_, rfl⟩
        · have := Rep.keep (trC s) (fun p hp => hkp.out p.1 p.2 (by have := (f1.out.2 p hp).1; omega)) hr.out
          exact rep_down _ (c0 := 0) (okT_C 0 s) (Nat.zero_le _) (by omega) this
        · rw [← hin']
          have := Rep.keep (trS (List.replicate i x)) (fun p hp => hkp.out p.1 p.2 (by have : H3.c ≤ p.2 := (fd.out.2 p hp).1; omega)) rd.out
          exact rep_down _ (c0 := 0) (okT_S 0 _) (Nat.zero_le _) x13.out.c this
      · exact (f1.out.wide hH0c (Nat.le_of_lt hq3)).app fd.out x13.out.c hx.out.c
  · cases hv
/- Regions that look at some things again; writes into own lists. -/
structure YT (E : Env) (T : Tab) (sh : Bool) (full : List Co) (rs : List (Nat × Nat)) (l : List Co) (s : Sl) (H : Hp) (tr : List (Sl × Hp)) (k : Ct) : Prop where
  out : XT E T sh l s H tr fun tr' s' H' => again E T sh full tr' rs ∧ k.den E T .norm s' H'
section
variable {E : Env} {sh : Bool} {full : List Co} {rs : List (Nat × Nat)} {s : Sl} {H : Hp} {tr : List (Sl × Hp)} {k : Ct}
theorem goDrw {l : List Co} (h : YT E T sh l rs l s H [] k) : Y E T (.drw sh l rs) s H k := ⟨h.out⟩
theorem goTOp {d o l v H' q} (e : xdo E T sh o s H = q) (eq : q = some (v, H')) (h : YT E T sh full rs l ((d, v) :: s) H' (tr ++ [(s, H)]) k) : YT E T sh full rs (⟨some d, o, none⟩ :: l) s H tr k := ⟨by
  simp only [XT, XG_none, e, eq, opt_some]; exact h.out⟩
theorem goTOp0 {o l v H' q} (e : xdo E T sh o s H = q) (eq : q = some (v, H')) (h : YT E T sh full rs l s H' (tr ++ [(s, H)]) k) : YT E T sh full rs (⟨none, o, none⟩ :: l) s H tr k := ⟨by
  simp only [XT, XG_none, e, eq, opt_some]; exact h.out⟩
theorem goTNil (ha : again E T sh full (tr ++ [(s, H)]) rs) (h : K E T k .norm s H) : YT E T sh full rs [] s H tr k := ⟨⟨ha, h.out⟩⟩
end
theorem Keeps.put2 {H : Hp} {b ver b' ver' : Nat} {k k' : Blk} (hk : H.at b ver = some k) (hne : (b', ver') ≠ (b, ver)) : Keeps H (H.put b k') b' ver' := by
  intro x hx
  by_cases hv : ver' = ver
  · subst hv
    have : b' ≠ b := fun e => hne (by rw [e])
    rw [at_put this]; exact hx
  · exact Keeps.put hk hv x hx
theorem put_ext {H0 H : Hp} {b ver : Nat} {k : Blk} {cs : List AV} (hw0 : Wf H0) (he : Ext H0 H) (hv : H0.c ≤ ver) (hk : H.at b ver = some k) : Ext H0 (H.put b ⟨ver, cs, true, true⟩) := by
  obtain ⟨g1, g2⟩ := Hp.at_some hk
  have hb := (List.getElem?_eq_some_iff.1 g1).1
  refine ⟨?_, ?_, he.c⟩
  · intro i k' hi
    have h1 := he.pre i k' hi
    show (H.bs.set b _)[i]? = some k'
    by_cases hib : b = i
    · subst hib
      rw [g1] at h1
      cases h1
      exact absurd (hw0 b _ hi) (by omega)
    · rw [List.getElem?_set_ne hib]; exact h1
  · intro i k' hi
    simp only [Hp.put] at hi ⊢
    by_cases hib : b = i
    · subst hib
      simp [hb] at hi
      subst hi
      have := he.wf b _ g1
      show ver < H.c
      omega
    · rw [List.getElem?_set_ne hib] at hi
      exact he.wf i k' hi
def trB (f : Bool) (l : List Int) : Tr := if f = true then trF l else trS l
theorem rep_B {f : Bool} {c : Nat} {H : Hp} {l : List Int} {v : AV} {bs : List (Nat × Nat)} : Rep c H (trB f l) v bs ↔ (f = false ∧ l = [] ∧ v = .nilS ∧ bs = []) ∨ ∃ b ver, v = .sl b ver 0 l.length 1 f ∧ c ≤ ver ∧ (f = false → l ≠ []) ∧ H.at b ver = some ⟨ver, l.map (.int .i64), true, true⟩ ∧ bs = [(b, ver)] := by
  cases f
  · simp only [trB, Bool.false_eq_true, if_false]
    rw [rep_S]
    simp
  · simp only [trB, if_true]
    rw [rep_F]
    simp
/-- A number of an own list is written. -/
theorem rep_store {f : Bool} {c : Nat} {H : Hp} {l : List Int} {v : AV} {bs : List (Nat × Nat)} {t : Nat} (ht : t = 3 ∨ t = 2) (h : Rep c H (trB f l) v bs) (j : Nat) (hj : j < l.length) (x : Int) :
    ∃ H', astore T t (pAt v j) (.int .i64 x) H = some H' ∧ Rep c H' (trB f (l.set j x)) v bs ∧ (∀ b ver, (b, ver) ∉ bs → Keeps H H' b ver) ∧ (∀ H0, Wf H0 → Ext H0 H → H0.c ≤ c → Ext H0 H') ∧ H'.c = H.c := by
  rcases rep_B.1 h with ⟨_, rfl, _⟩ | ⟨b, ver, rfl, hv, hne, hk, rfl⟩
  · simp at hj
  · obtain ⟨g1, g2⟩ := Hp.at_some hk
    have hb := (List.getElem?_eq_some_iff.1 g1).1
    have hT : ∃ ti, T t = some ti ∧ ti.size = 1 ∧ ti.d = .int .i64 := by
      rcases ht with rfl | rfl
      · exact ⟨_, T3, rfl, rfl⟩
      · exact ⟨_, T2, rfl, rfl⟩
    obtain ⟨ti, hT, hsz, _⟩ := hT
    refine ⟨H.put b ⟨ver, (l.set j x).map (.int .i64), true, true⟩, ?_, ?_, ?_, ?_, rfl⟩
    · simp only [astore, hT, pAt, hk]
      rw [if_pos (by simp [AV.cells, AV.one, hsz]; omega)]
      have := setAll_one l j x
      simp only [Int.toNat_natCast, Nat.zero_add, Nat.mul_one, AV.cells, this]
    · refine rep_B.2 (.inr ⟨b, ver, by simp, hv, ?_, by simp [Hp.at, Hp.put, hb], rfl⟩)
      intro hf e
      have := congrArg List.length e
      simp at this
      subst this
      simp at hj
    · intro b' ver' hm
      exact Keeps.put2 hk (by simpa using hm)
    · intro H0 hw0 he hc
      exact put_ext hw0 he (Nat.le_trans hc hv) hk
theorem trS_B (l : List Int) : trB false l = trS l := by simp [trB]
theorem trF_B (l : List Int) : trB true l = trF l := by simp [trB]
/-- The end of a walk over a tape that was read on. -/
theorem goEndPt {E : Env} {H0 H : Hp} {b ver : Nat} {v0 : AV} {l0 : List Int} {a a' : Nat} {x : Ex} {s : Sl} {rs : List ResultVar} {q : Option (List AV)} {vs : List AV} {r : AV} {Hr : Hp} (hw : Wf H0) (ht : Tape H0 b ver v0 l0 a) (he : Pre (tapePut H0 b ver v0 a') H) (hx : x = .norm ∨ x = .ret) (e : xres T s H rs = q) (eq : q = some vs) (hr : (xret vs).rel (tapePut H0 b ver v0 a').bs.length (tapePut H0 b ver v0 a').c [] = r) (hh : tapePut H0 b ver v0 a' = Hr) :
    K E T (.fin fun x s' H2 => (x = .norm ∨ x = .ret) ∧ ∃ vs js, xres T s' H2 rs = some vs ∧ Can H0 H2 Hr (xret vs) r js) x s H := by
  subst hh
  exact ⟨⟨hx, vs, [], e.trans eq, (Can.pure (ht.wf hw) he hr).tape hw ht⟩⟩
theorem goEndRt {E : Env} {H0 H : Hp} {b ver : Nat} {v0 : AV} {l0 : List Int} {a a' : Nat} {x : Ex} {s : Sl} {rs : List ResultVar} {q : Option (List AV)} {vs : List AV} {t : Tr} {bs : List (Nat × Nat)} {d : Nat} {r : AV} {Hr : Hp} (hw : Wf H0) (ht : Tape H0 b ver v0 l0 a) (he : Pre (tapePut H0 b ver v0 a') H) (ho : Rep H0.c H t (xret vs) bs) (hf : Fresh H0.c d bs) (hx : x = .norm ∨ x = .ret) (e : xres T s H rs = q) (eq : q = some vs) (hr : mk t (tapePut H0 b ver v0 a') = (r, Hr)) :
    K E T (.fin fun x s' H2 => (x = .norm ∨ x = .ret) ∧ ∃ vs js, xres T s' H2 rs = some vs ∧ Can H0 H2 Hr (xret vs) r js) x s H := by
  have := can_rep (ht.wf hw) he (t := t) (v := xret vs) (bs := bs) ho hf.1
  rw [hr] at this
  exact ⟨⟨hx, vs, bs, e.trans eq, this.tape hw ht⟩⟩
theorem Keeps.tape {H : Hp} {b ver : Nat} {v : AV} {l : List Int} {a a' : Nat} (ht : Tape H b ver v l a) {b' ver' : Nat} (hv : ver' ≠ ver) : Keeps H (tapePut H b ver v a') b' ver' := Keeps.put ht.at' hv
/- Walks: numbers and tensors of a tape. -/
def numLits : List Int := [9223372036854775807, -9223372036854775808, 4611686018427387904, -1099511627776, 8589934592, 3037000500]
theorem xdo_bs38_6 {E : Env} {sh : Bool} {s : Sl} {H : Hp} : xdo E T sh (.buildSlice 38 6 #[(0, (.const (.int .i64 9223372036854775807))), (1, (.const (.int .i64 (-9223372036854775808)))), (2, (.const (.int .i64 4611686018427387904))), (3, (.const (.int .i64 (-1099511627776)))), (4, (.const (.int .i64 8589934592))), (5, (.const (.int .i64 3037000500)))]) s H = some (.sl H.bs.length H.c 0 6 1 true, H.new (numLits.map (.int .i64))) := by
  simp [xdo, aop, D38, T2, rep, afill, setAll, AV.cells, AV.one, numLits]
/-- A number of a tape. -/
def numT (l : List Int) (a : Nat) : Int × Nat :=
  if nextOf l a 9 = 0 then (nth numLits (nextOf l (nextAt l a 9) 6), nextAt l (nextAt l a 9) 6)
  else if nextOf l a 9 = 1 then (0, nextAt l a 9)
  else (w (nextOf l (nextAt l a 9) 19 - 9), nextAt l (nextAt l a 9) 19)
theorem numT_le {l : List Int} {a : Nat} (h : a ≤ l.length) : (numT l a).2 ≤ l.length := by
  unfold numT
  split
  · exact nextAt_le (nextAt_le h)
  · split
    · exact nextAt_le h
    · exact nextAt_le (nextAt_le h)
noncomputable def F133 (args : List AV) (H : Hp) : Option (AV × Hp) := match args with
  | [.ptr b ver 0] => tapeF H b ver fun v l a => (.int .i64 (numT l a).1, tapePut H b ver v (numT l a).2)
  | _ => none
theorem F133_at {H : Hp} {b ver : Nat} {v : AV} {l : List Int} {a : Nat} (h : Tape H b ver v l a) : F133 [.ptr b ver 0] H = some (.int .i64 (numT l a).1, tapePut H b ver v (numT l a).2) := by
  simp only [F133]; exact tapeF_at h
set_option maxHeartbeats 1000000 in
theorem snd133 : Sound Try.prog 133 (FSem.eff F133).run := by
  refine sound_of hT (EOK_cons snd16 (EOK_nil _)) mixed A133 Try.func133 hb133 (by kernel_rfl) (by kernel_rfl) (by kernel_rfl) (by kernel_rfl) sh133 1 (by kernel_rfl) rs133 hr133 ?_
  intro args H r H' hw h
  have hv : F133 args H = some (r, H') := h
  clear h
  unfold F133 at hv
  split at hv
  · rename_i b ver
    obtain ⟨v, l, a, ht, hv⟩ := tapeF_some hv
    obtain ⟨rfl, rfl⟩ := Prod.mk.inj hv
    clear hv
    have e1 := F16_at ht 9
    obtain ⟨k0, k9⟩ := next_range (a' := a) ht 9 (by omega)
    have ht1 : Tape (tapePut H b ver v (nextAt l a 9)) b ver v l (nextAt l a 9) := ht.put (nextAt_le ht.le)
    have hw1 := ht.wf (a' := nextAt l a 9) hw
    have hb6 := @xdo_bs38_6
    refine ⟨rfl, go ?_⟩
    unfold c133
    simp only [argSl]
    replace ht := Hide.mk ht
    generalize hk : nextOf l a 9 = k at *
    by_cases h0 : k = 0
    · subst h0
      have hres : numT l a = (nth numLits (nextOf l (nextAt l a 9) 6), nextAt l (nextAt l a 9) 6) := by simp [numT, hk]
      rw [hres]
      obtain ⟨j0, j6⟩ := next_range (a' := nextAt l a 9) ht.out 6 (by omega)
      have hbl : b < (tapePut H b ver v (nextAt l a 9)).bs.length := (List.getElem?_eq_some_iff.1 (Hp.at_some ht1.at').1).1
      have hpp : tapePut (tapePut H b ver v (nextAt l a 9)) b ver v (nextAt l (nextAt l a 9) 6) = tapePut H b ver v (nextAt l (nextAt l a 9) 6) := tape_tape _ _ _ _ _ _
      have hx6 : Ext (tapePut H b ver v (nextAt l a 9)) ((tapePut H b ver v (nextAt l a 9)).new (numLits.map (.int .i64))) := (Ext.refl hw1).new _
      have hpre := (Ext.tape (a' := nextAt l (nextAt l a 9) 6) ht1 hx6).pre
      rw [hpp] at hpre
      generalize hG : tapePut H b ver v (nextAt l a 9) = G at *
      have ht2 : Tape (G.new (numLits.map (.int .i64))) b ver v l (nextAt l a 9) := ht1.ext hx6.pre
      have e2 := F16_at ht2 6
      have hil : ints (tapePut (G.new (numLits.map (.int .i64))) b ver v (nextAt l (nextAt l a 9) 6)) (.sl G.bs.length G.c 0 6 1 true) = some numLits := by
        unfold tapePut
        rw [ints_put (by simp [off]; omega)]
        exact ints_of_ownF (mkF_own G numLits) (by decide)
      have hix := aidxS_ints hil .i64
      have hld := aload_nth T2 rfl hil
      simp only [← aidx38, show ((numLits.length : Nat) : Int) = 6 from rfl] at hix hld
      replace ht1 := Hide.mk ht1
      replace ht2 := Hide.mk ht2
      replace hpre := Hide.mk hpre
      clear hil hx6 hres hpp hG
      repeat' (first | apply goSeq | apply goReg | apply goSeqN | apply goSeqR | apply goSkip | apply goRet | apply goNil | apply goBlock | apply goExit | apply goBlkN | apply goBlkR | apply goBlkE | apply goSeqE | apply goLoopR | apply goLoopE | (apply goOp; (· (simp [*]; try exact rfl)); (· exact rfl)) | (apply goOp0; (· (simp [*]; try exact rfl)); (· exact rfl)) | (apply goYes; (· (simp [*]; done)); (· (simp [*]; try exact rfl)); (· exact rfl)) | (apply goNo; (· (simp [*]; done))) | (apply goNoU; (· (simp; exact rfl))) | (apply goIfT; (· (simp [*]; done))) | (apply goIfF; (· (simp [*]; done))) | (apply goIf; (· (simp; exact rfl)); (· with_reducible exact rfl)) | (apply goSplit; (· (simp; exact rfl)); (· with_reducible exact rfl)) | (apply goIfQ; (· (simp; exact rfl)); (· exact rfl)) | (apply goSplitQ; (· (simp; exact rfl)); (· exact rfl)) | (apply goBlkX; (· rfl)) | intro _)
      exact goEndPt hw ht.out hpre.out (by simp) (by simp [rs133]; exact rfl) rfl rfl rfl
    · by_cases h1 : k = 1
      · subst h1
        have hres : numT l a = (0, nextAt l a 9) := by simp [numT, hk]
        rw [hres]
        replace ht1 := Hide.mk ht1
        clear hres
        repeat' (first | apply goSeq | apply goReg | apply goSeqN | apply goSeqR | apply goSkip | apply goRet | apply goNil | apply goBlock | apply goExit | apply goBlkN | apply goBlkR | apply goBlkE | apply goSeqE | apply goLoopR | apply goLoopE | (apply goOp; (· (simp [*]; try exact rfl)); (· exact rfl)) | (apply goOp0; (· (simp [*]; try exact rfl)); (· exact rfl)) | (apply goYes; (· (simp [*]; done)); (· (simp [*]; try exact rfl)); (· exact rfl)) | (apply goNo; (· (simp [*]; done))) | (apply goNoU; (· (simp; exact rfl))) | (apply goIfT; (· (simp [*]; done))) | (apply goIfF; (· (simp [*]; done))) | (apply goIf; (· (simp; exact rfl)); (· with_reducible exact rfl)) | (apply goSplit; (· (simp; exact rfl)); (· with_reducible exact rfl)) | (apply goIfQ; (· (simp; exact rfl)); (· exact rfl)) | (apply goSplitQ; (· (simp; exact rfl)); (· exact rfl)) | (apply goBlkX; (· rfl)) | intro _)
        exact goEndPt hw ht.out (Pre.refl _) (by simp) (by simp [rs133]; exact rfl) rfl rfl rfl
      · have hres : numT l a = (w (nextOf l (nextAt l a 9) 19 - 9), nextAt l (nextAt l a 9) 19) := by simp [numT, hk, h0, h1]
        rw [hres]
        have e2 := F16_at ht1 19
        rw [tape_tape] at e2
        replace ht1 := Hide.mk ht1
        clear hres
        repeat' (first | apply goSeq | apply goReg | apply goSeqN | apply goSeqR | apply goSkip | apply goRet | apply goNil | apply goBlock | apply goExit | apply goBlkN | apply goBlkR | apply goBlkE | apply goSeqE | apply goLoopR | apply goLoopE | (apply goOp; (· (simp [*]; try exact rfl)); (· exact rfl)) | (apply goOp0; (· (simp [*]; try exact rfl)); (· exact rfl)) | (apply goYes; (· (simp [*]; done)); (· (simp [*]; try exact rfl)); (· exact rfl)) | (apply goNo; (· (simp [*]; done))) | (apply goNoU; (· (simp; exact rfl))) | (apply goIfT; (· (simp [*]; done))) | (apply goIfF; (· (simp [*]; done))) | (apply goIf; (· (simp; exact rfl)); (· with_reducible exact rfl)) | (apply goSplit; (· (simp; exact rfl)); (· with_reducible exact rfl)) | (apply goIfQ; (· (simp; exact rfl)); (· exact rfl)) | (apply goSplitQ; (· (simp; exact rfl)); (· exact rfl)) | (apply goBlkX; (· rfl)) | intro _)
        exact goEndPt hw ht.out (Pre.refl _) (by simp) (by simp [rs133]; exact rfl) rfl rfl rfl
  · cases hv
/-- A tensor's numbers of a tape. -/
def dataT (l : List Int) : Nat → Nat → List Int × Nat
  | 0, a => ([], a)
  | n + 1, a => ((numT l a).1 :: (dataT l n (numT l a).2).1, (dataT l n (numT l a).2).2)
theorem dataT_len (l : List Int) : ∀ n a, (dataT l n a).1.length = n := by
  intro n
  induction n with
  | zero => intro a; rfl
  | succ n ih => intro a; simp [dataT, ih]
theorem dataT_le {l : List Int} : ∀ n a, a ≤ l.length → (dataT l n a).2 ≤ l.length := by
  intro n
  induction n with
  | zero => intro a h; exact h
  | succ n ih => intro a h; exact ih _ (numT_le h)
noncomputable def F80 (args : List AV) (H : Hp) : Option (AV × Hp) := match args with
  | [.ptr b ver 0, sh] => (ints H sh).bind fun s => if s.length < 1099511627776 then tapeF H b ver fun v l a => mk (.agg [trC s, trS (dataT l (sizeOf s).toNat a).1]) (tapePut H b ver v (dataT l (sizeOf s).toNat a).2) else none
  | _ => none
set_option maxHeartbeats 2000000 in
theorem snd80 : Sound Try.prog 80 (FSem.eff F80).run := by
  refine sound_of hT (EOK_cons snd70 (EOK_cons snd133 (EOK_nil _))) mixed A80 Try.func80 hb80 (by kernel_rfl) (by kernel_rfl) (by kernel_rfl) (by kernel_rfl) sh80 2 (by kernel_rfl) rs80 hr80 ?_
  intro args H r H' hw h
  have hv : F80 args H = some (r, H') := h
  clear h
  unfold F80 at hv
  split at hv
  · rename_i b ver sh
    obtain ⟨s, hs, hv⟩ := Option.bind_eq_some_iff.1 hv
    split at hv
    rotate_left
    · cases hv
    rename_i hmax
    obtain ⟨v, l, a, ht, hv⟩ := tapeF_some hv
    have hle := sizeOf_le s
    have hver : ver < H.c := at_lt hw ht.at'
    generalize hn : (sizeOf s).toNat = n at *
    generalize hFL : (dataT l n a).1 = FL at *
    generalize hFA : (dataT l n a).2 = FA at *
    -- the result's cell
    have x0 : Ext H (H.new [.nilS, .nilS]) := (Ext.refl hw).new _
    have c0 : OwnC H (H.new [.nilS, .nilS]) H.bs.length H.c [.nilS, .nilS] := ⟨Nat.le_refl _, new_at _ _⟩
    have hvlt : H.c < (H.new [AV.nilS, AV.nilS]).c := Nat.lt_succ_self _
    generalize hH0 : H.new [.nilS, .nilS] = H0 at *
    generalize hp0 : H.bs.length = p0 at *
    generalize hq0 : H.c = q0 at *
    have hs0 := ints_ext x0.pre hs
    -- filled
    have e70 : F70 [sh, .int .i64 0] H0 = some (mk (.agg [trC s, trS (List.replicate n 0)]) H0) := by
      show (ints H0 sh).bind _ = _
      rw [hs0, Option.bind_some, if_pos hmax, hn]
    obtain ⟨bs, r1, f1, x1, t1⟩ := mk_tens (H := H0) x0.wf (a := trC s) (b := trS (List.replicate n 0)) (s := s) (d := List.replicate n 0) (.inr (.inr rfl)) (.inl rfl) (by omega) (by simp; omega)
    generalize hr1 : mk (.agg [trC s, trS (List.replicate n 0)]) H0 = tt at *
    obtain ⟨t0, H1⟩ := tt
    simp only at r1 f1 x1 t1
    obtain ⟨shv, dav, b1, b2, rfl, rs1, rd1, rfl⟩ := rep_agg2.1 r1
    obtain ⟨_, _, hag, hsi, hdi⟩ := tens_some t1
    cases hag
    have hone := ints_one' hsi
    have hone2 := ints_one' hdi
    have hdl : alen T 38 dav = some (.int .i64 n) := by rw [alen38, alenS_ints hdi]; simp
    -- the tensor
    have c2 : OwnC H1 (H1.new [.nilS, .nilS]) H1.bs.length H1.c [.nilS, .nilS] := ⟨Nat.le_refl _, new_at _ _⟩
    have x2 : Ext H1 (H1.new [.nilS, .nilS]) := (Ext.refl x1.wf).new _
    have st := st40 (x := shv) (y := dav) (new_at H1 [.nilS, .nilS]) hone hone2
    obtain ⟨c3, x3⟩ := c2.wr x1.wf x2 [shv, dav]
    generalize hH2 : H1.new [.nilS, .nilS] = H2 at *
    generalize hp3 : H1.bs.length = p3 at *
    generalize hq3' : H1.c = q3 at *
    generalize hH3 : H2.put p3 ⟨q3, [shv, dav], true, true⟩ = H3 at *
    have l1 := ld38 c3.at' 1
    simp only [List.getElem?_cons_zero, List.getElem?_cons_succ] at l1
    have c0' := (c0.ext x1.pre).ext x3.pre
    have rs3 := Rep.ext x3.pre rs1
    have rd3 := Rep.ext x3.pre rd1
    have x13 : Ext H H3 := (x0.trans x1).trans x3
    have hH0c : q0 ≤ H0.c := by omega
    have h03 : H0.c ≤ q3 := by have := x1.c; omega
    replace hv := Hide.mk hv
    replace hs := Hide.mk hs
    replace ht := Hide.mk ht
    replace f1 := Hide.mk f1
    replace rs3 := Hide.mk rs3
    replace rd3 := Hide.mk rd3
    replace c0' := Hide.mk c0'
    replace c3 := Hide.mk c3
    replace x13 := Hide.mk x13
    clear c2 x2 hs0 r1 c0 x1 x3 t1 rs1 rd1 hsi hdi x0 hr1
    refine ⟨rfl, go ?_⟩
    unfold c80
    simp only [argSl]
    repeat' (first | apply goSeq | apply goReg | apply goSeqN | apply goSeqR | apply goSkip | apply goRet | apply goNil | apply goBlock | apply goExit | apply goBlkN | apply goBlkR | apply goBlkE | apply goSeqE | apply goLoopR | apply goLoopE | (apply goOp; (· (simp [*]; try exact rfl)); (· exact rfl)) | (apply goOp0; (· (simp [*]; try exact rfl)); (· exact rfl)) | (apply goYes; (· (simp [*]; done)); (· (simp [*]; try exact rfl)); (· exact rfl)) | (apply goNo; (· (simp [*]; done))) | (apply goNoU; (· (simp; exact rfl))) | (apply goIfT; (· (simp [*]; done))) | (apply goIfF; (· (simp [*]; done))) | (apply goIf; (· (simp; exact rfl)); (· with_reducible exact rfl)) | (apply goSplit; (· (simp; exact rfl)); (· with_reducible exact rfl)) | (apply goIfQ; (· (simp; exact rfl)); (· exact rfl)) | (apply goSplitQ; (· (simp; exact rfl)); (· exact rfl)) | (apply goBlkX; (· rfl)) | intro _)
    have hFLh := Hide.mk hFL
    have hFAh := Hide.mk hFA
    clear hFL hFA hH0 hp0 hH2 hp3 hH3 e70 st hdl l1
    refine goLoop (fun m s1 G => ∃ (i a1 : Nat) (L : List Int), m = n - i ∧ i ≤ n ∧ a1 ≤ l.length ∧ L.length = n ∧ get s1 0 = .ptr b ver 0 ∧ get s1 4 = .ptr p0 q0 0 ∧ get s1 5 = .ptr p3 q3 0 ∧ get s1 11 = .int .i64 n ∧ get s1 12 = .int .i64 i ∧ Ext (tapePut H b ver v a1) G ∧ OwnC H G p0 q0 [.nilS, .nilS] ∧ OwnC H1 G p3 q3 [shv, dav] ∧ Rep H0.c G (trC s) shv b1 ∧ Rep H0.c G (trS L) dav b2 ∧ L.take i ++ (dataT l (n - i) a1).1 = FL ∧ (dataT l (n - i) a1).2 = FA) n ?_ ?_
    · refine ⟨0, a, List.replicate n 0, rfl, Nat.zero_le _, ht.out.le, by simp, rfl, rfl, rfl, rfl, rfl, ?_, c0'.out, c3.out, rs3.out, rd3.out, by simpa using hFLh.out, hFAh.out⟩
      have hself : tapePut H b ver v a = H := put_self ht.out.at'
      rw [hself]; exact x13.out
    clear c0' c3 rs3 rd3
    rintro m s1 G ⟨i, a1, L, hmm, hi, ha1, hLn, g1, g2, g3, g4, g5, hx, d0, d3, hr, hd, hL, hA⟩
    simp only [cut_cons, cut_nil, g1, g2, g3, g4, g5]
    clear g1 g2 g3 g4 g5
    have hi0 : (0 : Int) ≤ i := Int.natCast_nonneg i
    have hw1 : w ((i : Int) + 1) = ((i + 1 : Nat) : Int) := w_id (by omega)
    have hwp := ht.out.wf (a' := a1) hw
    have l1 := ld38 d3.at' 1
    have l2 := ld40 d3.at'
    simp only [List.getElem?_cons_zero, List.getElem?_cons_succ] at l1
    replace hr := Hide.mk hr
    replace hL := Hide.mk hL
    replace hA := Hide.mk hA
    replace hLn := Hide.mk hLn
    by_cases hin : i < n
    · have ta : Tape G b ver v l a1 := (ht.out.put ha1).ext hx.pre
      have e1 := F133_at ta
      have hx2 := Ext.tape (a' := (numT l a1).2) (ht.out.put ha1) hx
      rw [tape_tape] at hx2
      have hwp2 := ht.out.wf (a' := (numT l a1).2) hw
      have k1 : ∀ b' ver', ver' ≠ ver → Keeps G (tapePut G b ver v (numT l a1).2) b' ver' := fun b' ver' h => Keeps.tape ta h
      have hd1 := Rep.keep (trS L) (fun p hp => k1 p.1 p.2 (by have := (f1.out.2 p (by simp [hp])).1; omega)) hd
      have hr1 := Rep.keep (trC s) (fun p hp => k1 p.1 p.2 (by have := (f1.out.2 p (by simp [hp])).1; omega)) hr.out
      have d31 := d3.keep (k1 p3 q3 (by omega))
      have d01 := d0.keep (k1 p0 q0 (by omega))
      have l1' := ld38 d31.at' 1
      simp only [List.getElem?_cons_zero, List.getElem?_cons_succ] at l1'
      have hixd : aidx T 38 dav (.int .i64 i) = some (pAt dav i) := by
        have := aidxS_ints (isL.ints (.inl rfl) (by rw [hLn.out]; omega) hd) .i64 i
        rw [aidx38, this, if_pos (by rw [hLn.out]; omega)]
      rw [← trS_B] at hd1
      generalize hG1 : tapePut G b ver v (numT l a1).2 = G1 at *
      obtain ⟨G2, e2, hd2, hk2, hx3, _⟩ := rep_store (.inr rfl) hd1 i (by rw [hLn.out]; exact hin) (numT l a1).1
      have hd12 := List.nodup_append.1 f1.out.1
      have hr2 := Rep.keep (trC s) (fun p hp => hk2 p.1 p.2 (fun hm => hd12.2.2 p hp p hm rfl)) hr1
      have d32 := d31.keep (hk2 p3 q3 (fun hm => by have := (f1.out.2 _ (List.mem_append_right _ hm)).2; simp only at this; omega))
      have d02 := d01.keep (hk2 p0 q0 (fun hm => by have := (f1.out.2 _ (List.mem_append_right _ hm)).1; simp only at this; omega))
      have hx4 := hx3 _ hwp2 hx2 (by show H.c ≤ H0.c; omega)
      replace hx4 := Hide.mk hx4
      replace d32 := Hide.mk d32
      replace d02 := Hide.mk d02
      replace hr2 := Hide.mk hr2
      replace hd2 := Hide.mk hd2
      replace ta := Hide.mk ta
      clear hx hx2 hx3 d0 d3 d01 d31 hr1 hd1 hd k1 hk2 hd12
      have hin' : (i : Int) < n := by omega
      repeat' (first | apply goSeq | apply goReg | apply goSeqN | apply goSeqR | apply goSkip | apply goRet | apply goNil | apply goBlock | apply goExit | apply goBlkN | apply goBlkR | apply goBlkE | apply goSeqE | apply goLoopR | apply goLoopE | (apply goOp; (· (simp [*]; try exact rfl)); (· exact rfl)) | (apply goOp0; (· (simp [*]; try exact rfl)); (· exact rfl)) | (apply goYes; (· (simp [*]; done)); (· (simp [*]; try exact rfl)); (· exact rfl)) | (apply goNo; (· (simp [*]; done))) | (apply goNoU; (· (simp; exact rfl))) | (apply goIfT; (· (simp [*]; done))) | (apply goIfF; (· (simp [*]; done))) | (apply goIf; (· (simp; exact rfl)); (· with_reducible exact rfl)) | (apply goSplit; (· (simp; exact rfl)); (· with_reducible exact rfl)) | (apply goIfQ; (· (simp; exact rfl)); (· exact rfl)) | (apply goSplitQ; (· (simp; exact rfl)); (· exact rfl)) | (apply goBlkX; (· rfl)) | intro _)
      apply goDrw
      iterate 6 (apply goTOp; (· (simp [*]; try exact rfl)); (· exact rfl))
      apply goTOp0; (· (simp [*]; try exact rfl)); (· exact rfl)
      refine goTNil (by simp [again, XG_none, l1, l1']) ?_
      repeat' (first | apply goSeq | apply goReg | apply goSeqN | apply goSeqR | apply goSkip | apply goRet | apply goNil | apply goBlock | apply goExit | apply goBlkN | apply goBlkR | apply goBlkE | apply goSeqE | apply goLoopR | apply goLoopE | (apply goOp; (· (simp [*]; try exact rfl)); (· exact rfl)) | (apply goOp0; (· (simp [*]; try exact rfl)); (· exact rfl)) | (apply goYes; (· (simp [*]; done)); (· (simp [*]; try exact rfl)); (· exact rfl)) | (apply goNo; (· (simp [*]; done))) | (apply goNoU; (· (simp; exact rfl))) | (apply goIfT; (· (simp [*]; done))) | (apply goIfF; (· (simp [*]; done))) | (apply goIf; (· (simp; exact rfl)); (· with_reducible exact rfl)) | (apply goSplit; (· (simp; exact rfl)); (· with_reducible exact rfl)) | (apply goIfQ; (· (simp; exact rfl)); (· exact rfl)) | (apply goSplitQ; (· (simp; exact rfl)); (· exact rfl)) | (apply goBlkX; (· rfl)) | intro _)
      have hLn := hLn.out
      have e3 : dataT l (n - i) a1 = ((numT l a1).1 :: (dataT l (n - (i + 1)) (numT l a1).2).1, (dataT l (n - (i + 1)) (numT l a1).2).2) := by
        rw [show n - i = (n - (i + 1)) + 1 by omega]; rfl
      refine goLoopN (n - (i + 1)) (by omega) ⟨i + 1, (numT l a1).2, L.set i (numT l a1).1, rfl, by omega, numT_le ha1, by simp [hLn], rfl, rfl, rfl, rfl, rfl, hx4.out, d02.out, d32.out, hr2.out, by rw [← trS_B]; exact hd2.out, ?_, ?_⟩
      · rw [take_set1 L i _ (by omega), ← hL.out, e3, List.append_assoc]; rfl
      · rw [← hA.out, e3]
    · have hin' : ¬ (i : Int) < n := by omega
      have hdl := alenS_ints (isL.ints (.inl rfl) (by rw [hLn.out]; omega) hd)
      have d0' := d0.at'
      have st := st40 (x := shv) (y := dav) d0' hone hone2
      have hkp : ∀ b' ver', ver' ≠ q0 → Keeps G (G.put p0 ⟨q0, [shv, dav], true, true⟩) b' ver' := fun b' ver' h => Keeps.put d0' h
      have lr := ld40 (at_put_same (k' := ⟨q0, [shv, dav], true, true⟩) d0' rfl)
      have hp := put_ext (cs := [shv, dav]) hwp hx (by show H.c ≤ q0; omega) d0'
      have hFA2 : a1 = FA := by
        have := hA.out
        rw [show n - i = 0 by omega] at this
        exact this
      have hFL2 : L = FL := by
        have := hL.out
        rw [show n - i = 0 by omega] at this
        simp only [dataT, List.append_nil] at this
        rw [List.take_of_length_le (by rw [hLn.out]; omega)] at this
        exact this
      subst hFA2
      subst hFL2
      replace d0 := Hide.mk d0
      replace d3 := Hide.mk d3
      replace d0' := Hide.mk d0'
      replace hkp := Hide.mk hkp
      replace hx := Hide.mk hx
      replace hd := Hide.mk hd
      replace hp := Hide.mk hp
      repeat' (first | apply goSeq | apply goReg | apply goSeqN | apply goSeqR | apply goSkip | apply goRet | apply goNil | apply goBlock | apply goExit | apply goBlkN | apply goBlkR | apply goBlkE | apply goSeqE | apply goLoopR | apply goLoopE | (apply goOp; (· (simp [*]; try exact rfl)); (· exact rfl)) | (apply goOp0; (· (simp [*]; try exact rfl)); (· exact rfl)) | (apply goYes; (· (simp [*]; done)); (· (simp [*]; try exact rfl)); (· exact rfl)) | (apply goNo; (· (simp [*]; done))) | (apply goNoU; (· (simp; exact rfl))) | (apply goIfT; (· (simp [*]; done))) | (apply goIfF; (· (simp [*]; done))) | (apply goIf; (· (simp; exact rfl)); (· with_reducible exact rfl)) | (apply goSplit; (· (simp; exact rfl)); (· with_reducible exact rfl)) | (apply goIfQ; (· (simp; exact rfl)); (· exact rfl)) | (apply goSplitQ; (· (simp; exact rfl)); (· exact rfl)) | (apply goBlkX; (· rfl)) | intro _)
      have hlo : ∀ p ∈ b1 ++ b2, p.2 ≠ q0 := fun p hp => by have := (f1.out.2 p hp).1; omega
      refine goEndRt (a' := a1) (vs := [.agg [shv, dav]]) (bs := b1 ++ b2) (d := q3) (t := .agg [trC s, trS L]) hw ht.out hp.out.pre ?_ ?_ (by simp) (by simp [rs80, lr]) rfl hv.out
      · refine rep_agg2.2 ⟨shv, dav, b1, b2, rfl, ?_, ?_, rfl⟩
        · exact rep_down _ (c0 := 0) (okT_C 0 s) (Nat.zero_le _) (by omega) (Rep.keep (trC s) (fun p hp => hkp.out p.1 p.2 (hlo p (by simp [hp]))) hr.out)
        · exact rep_down _ (c0 := 0) (okT_S 0 _) (Nat.zero_le _) (by omega) (Rep.keep (trS L) (fun p hp => hkp.out p.1 p.2 (hlo p (by simp [hp]))) hd.out)
      · exact f1.out.wide (by omega) (Nat.le_refl _)
  · cases hv
/- Plain law of TileShares: the sums. -/
def prodI : List Int → Int
  | [] => 1
  | k :: l => k * prodI l
theorem mul_rng {a b A B : Int} (ha : 0 ≤ a ∧ a ≤ A) (hb : 0 ≤ b ∧ b ≤ B) : 0 ≤ a * b ∧ a * b ≤ A * B :=
  ⟨Int.mul_nonneg ha.1 hb.1, Int.mul_le_mul ha.2 hb.2 hb.1 (by omega)⟩
theorem prodW_3 {l : List Int} (h3 : l.length ≤ 3) (h : ∀ x ∈ l, 0 ≤ x ∧ x ≤ 7) : prodW 1 l = prodI l ∧ 0 ≤ prodI l ∧ prodI l ≤ 343 := by
  match l, h3, h with
  | [], _, _ => simp [prodW, prodI]
  | [a], _, h =>
    have ha := h a (by simp)
    simp only [prodW, prodI, Int.one_mul, Int.mul_one]
    rw [w_id (by omega)]
    omega
  | [a, b], _, h =>
    have ha := h a (by simp)
    have hb := h b (by simp)
    have hab := mul_rng ha hb
    simp only [prodW, prodI, Int.one_mul, Int.mul_one]
    rw [w_id (x := a) (by omega), w_id (by omega)]
    omega
  | [a, b, c], _, h =>
    have ha := h a (by simp)
    have hb := h b (by simp)
    have hc := h c (by simp)
    have hab := mul_rng ha hb
    have habc := mul_rng hab hc
    simp only [prodW, prodI, Int.one_mul, Int.mul_one]
    rw [w_id (x := a) (by omega), w_id (x := a * b) (by omega), w_id (by omega), ← Int.mul_assoc]
    omega
  | _ :: _ :: _ :: _ :: _, h3, _ => simp at h3
theorem shape_3 {s : List Int} (h3 : s.length ≤ 3) (h : ∀ x ∈ s, x ∈ lens) : shapeOK s = true := by
  have hr : ∀ x ∈ s, 0 ≤ x ∧ x ≤ 7 := fun x hx => lens_rng x (h x hx)
  have hp := prodW_3 h3 hr
  have key : ∀ (l : List Int) (n : Int), (∀ x ∈ l, 0 ≤ x ∧ x ≤ 7) → shapeGo n l = decide (prodW n l ≤ 4096) := by
    intro l
    induction l with
    | nil => intro n _; rfl
    | cons k l ih =>
      intro n hl
      have hk := hl k (by simp)
      simp only [shapeGo, prodW]
      rw [if_neg (by omega)]
      exact ih _ fun x hx => hl x (by simp [hx])
  unfold shapeOK
  rw [if_neg (by omega), key s 1 hr]
  simp only [decide_eq_true_eq]
  omega
/-- All devices' parts, with the machine's sums. -/
noncomputable def sumD (s m p : List Int) : Nat → Int
  | 0 => 0
  | d + 1 => w (sumD s m p d + prodW 1 (sizeL s m p d))
/-- The same, with whole numbers. -/
def sumI (s m p : List Int) : Nat → Int
  | 0 => 0
  | d + 1 => sumI s m p d + prodI (szs m (meshAt m d) s p)
theorem chk_at {m : List Int} (hm : m ∈ six) {d : Nat} (hd : (d : Int) < devs m) {n : Int} (hn : n ∈ lens) {k : Nat} (hk : k < m.length) :
    0 ≤ szOf m (meshAt m d) n k ∧ szOf m (meshAt m d) n k ≤ szOf m (meshAt m 0) n k ∧ szOf m (meshAt m 0) n k ≤ 7 := by
  have h1 := List.all_eq_true.1 chk_six m hm
  have h2 := List.all_eq_true.1 h1 d (by simp; omega)
  have h3 := List.all_eq_true.1 h2 n hn
  have h4 := List.all_eq_true.1 h3 k (by simpa using hk)
  simpa using h4
theorem sz_rng {m : List Int} (hm : m ∈ six) {d : Nat} (hd : (d : Int) < devs m) {n : Int} (hn : n ∈ lens) {k : Int} (hk : k < m.length) :
    0 ≤ szOf m (meshAt m d) n k ∧ szOf m (meshAt m d) n k ≤ szOf m (meshAt m 0) n k ∧ szOf m (meshAt m 0) n k ≤ 7 := by
  by_cases h0 : 0 ≤ k
  · obtain ⟨j, rfl⟩ : ∃ j : Nat, k = j := ⟨k.toNat, by omega⟩
    exact chk_at hm hd hn (by omega)
  · simp only [szOf, if_neg h0]
    have := lens_rng n hn
    omega
theorem szs_rng {m : List Int} (hm : m ∈ six) {d : Nat} (hd : (d : Int) < devs m) : ∀ (s p : List Int), (∀ x ∈ s, x ∈ lens) → (∀ k ∈ p, k < m.length) → ∀ x ∈ szs m (meshAt m d) s p, 0 ≤ x ∧ x ≤ 7 := by
  intro s
  induction s with
  | nil => intro p _ _ x hx; simp [szs] at hx
  | cons n s ih =>
    intro p hs hp x hx
    cases p with
    | nil => simp [szs] at hx
    | cons k p =>
      simp only [szs, List.mem_cons] at hx
      rcases hx with rfl | hx
      · have := sz_rng hm hd (hs n (by simp)) (hp k (by simp))
        omega
      · exact ih p (fun y hy => hs y (by simp [hy])) (fun y hy => hp y (by simp [hy])) x hx
theorem szs_le {m : List Int} (hm : m ∈ six) {d : Nat} (hd : (d : Int) < devs m) : ∀ (s p : List Int), (∀ x ∈ s, x ∈ lens) → (∀ k ∈ p, k < m.length) → ∀ i : Nat, nth (szs m (meshAt m d) s p) i ≤ nth (szs m (meshAt m 0) s p) i := by
  intro s
  induction s with
  | nil => intro p _ _ i; simp [szs]
  | cons n s ih =>
    intro p hs hp i
    cases p with
    | nil => simp [szs]
    | cons k p =>
      cases i with
      | zero => simpa [szs, nth] using (sz_rng hm hd (hs n (by simp)) (hp k (by simp))).2.1
      | succ i =>
        have := ih p (fun y hy => hs y (by simp [hy])) (fun y hy => hp y (by simp [hy])) i
        simpa [szs, nth] using this
theorem fin {X S c' c : Int} (hc : c' = c) (h : X = S * c) : X = S * c' := by rw [hc, h]
theorem spec_rng {p : List Int} {n : Int} (h : specGo n [] p = true) : ∀ k ∈ p, -1 ≤ k ∧ k < n := by
  intro k hk
  obtain ⟨i, hi, rfl⟩ := List.getElem_of_mem hk
  rw [← specGo_eq] at h
  have := rSpecGo_lt p [] h i hi
  simpa [nth, hi] using this
/- Functions in short form. -/
/-! parquetry/parquetrylaw17.made (1 parameters; calls 16 (*parquetry/parquetrykeep.Tape).Next, 17 (*parquetry/parquetrykeep.Tape).Shape, 18 (*parquetry/parquetrykeep.Tape).Spec, 80 (*parquetry/parquetrykeep.Tape).Tensor) -/
def A31 : Ann := { recs := fun i => if i = 4 then [(0, 8), (1, 8), (1, 9)] else [], drop := fun i => false }
noncomputable def c31 : Cc :=
  (.seq (.reg false [⟨some 2, (Op.alloc 40), none⟩,
    ⟨some 3, (Op.assign (Operand.const (Value.slice none 0 0))), none⟩,
    ⟨some 4, (Op.assign (Operand.const (Value.slice none 0 0))), none⟩])
  (.seq (.reg false [⟨some 8, (Op.move (Operand.tmp 0)), none⟩,
    ⟨some 9, (Op.build 25 #[(0, (Operand.tmp 8))]), none⟩,
    ⟨some 10, (Op.box 25 (Operand.tmp 9)), none⟩,
    ⟨some 5, (Op.assign (Operand.tmp 10)), none⟩])
  (.seq (.reg false [⟨some 11, (Op.buildSlice 22 1 #[(0, (Operand.const (Value.int IntKind.i64 2)))]), none⟩,
    ⟨some 12, (Op.buildSlice 22 2 #[(0, (Operand.const (Value.int IntKind.i64 2))), (1, (Operand.const (Value.int IntKind.i64 4)))]), none⟩,
    ⟨some 13, (Op.buildSlice 22 2 #[(0, (Operand.const (Value.int IntKind.i64 3))), (1, (Operand.const (Value.int IntKind.i64 2)))]), none⟩,
    ⟨some 14, (Op.buildSlice 22 3 #[(0, (Operand.const (Value.int IntKind.i64 2))), (1, (Operand.const (Value.int IntKind.i64 2))), (2, (Operand.const (Value.int IntKind.i64 2)))]), none⟩,
    ⟨some 15, (Op.buildSlice 22 0 #[]), none⟩,
    ⟨some 16, (Op.buildSlice 22 1 #[(0, (Operand.const (Value.int IntKind.i64 5)))]), none⟩,
    ⟨some 17, (Op.buildSlice 22 2 #[(0, (Operand.const (Value.int IntKind.i64 2))), (1, (Operand.const (Value.int IntKind.i64 2)))]), none⟩,
    ⟨some 18, (Op.buildSlice 26 7 #[(0, (Operand.tmp 11)), (1, (Operand.tmp 12)), (2, (Operand.tmp 13)), (3, (Operand.tmp 14)), (4, (Operand.tmp 15)), (5, (Operand.tmp 16)), (6, (Operand.tmp 17))]), none⟩,
    ⟨some 19, (Op.move (Operand.tmp 5)), none⟩,
    ⟨some 20, (Op.call { callee := (Callee.value (Operand.func 16)), args := #[(Operand.tmp 19), (Operand.const (Value.int IntKind.i64 7))], argTypes := #[23, 3] }), none⟩,
    ⟨some 21, (Op.indexAddr 26 (Operand.tmp 18) (Operand.tmp 20)), none⟩,
    ⟨some 22, (Op.load 22 (Operand.tmp 21)), none⟩,
    ⟨some 6, (Op.assign (Operand.tmp 22)), none⟩])
  (.seq (.reg false [⟨some 23, (Op.move (Operand.tmp 5)), none⟩,
    ⟨some 24, (Op.move (Operand.tmp 5)), none⟩,
    ⟨some 25, (Op.call { callee := (Callee.value (Operand.func 17)), args := #[(Operand.tmp 24)], argTypes := #[23] }), none⟩,
    ⟨some 26, (Op.call { callee := (Callee.value (Operand.func 80)), args := #[(Operand.tmp 23), (Operand.tmp 25)], argTypes := #[23, 22] }), none⟩,
    ⟨some 7, (Op.alloc 40), none⟩,
    ⟨none, (Op.store 40 (Operand.tmp 7) (Operand.tmp 26)), none⟩])
  (.seq (.drw false [⟨some 27, (Op.load 40 (Operand.tmp 7)), none⟩,
    ⟨some 28, (Op.move (Operand.tmp 6)), none⟩,
    ⟨some 29, (Op.move (Operand.tmp 5)), none⟩,
    ⟨some 30, (Op.move (Operand.tmp 6)), none⟩,
    ⟨some 31, (Op.fieldAddr 40 (Operand.tmp 7) 0), none⟩,
    ⟨some 32, (Op.load 22 (Operand.tmp 31)), none⟩,
    ⟨some 33, (Op.call { callee := (Callee.builtin Builtin.len), args := #[(Operand.tmp 32)], argTypes := #[22] }), none⟩,
    ⟨some 34, (Op.call { callee := (Callee.value (Operand.func 18)), args := #[(Operand.tmp 29), (Operand.tmp 30), (Operand.tmp 33)], argTypes := #[23, 22, 3] }), none⟩,
    ⟨none, (Op.store 40 (Operand.tmp 2) (Operand.tmp 27)), none⟩,
    ⟨some 3, (Op.assign (Operand.tmp 28)), none⟩,
    ⟨some 4, (Op.assign (Operand.tmp 34)), none⟩] [(0, 8)])
  .ret)))))
noncomputable def b31 : Code := Try.f31.body.getD .skip
theorem hb31 : Try.f31.body = some b31 := by kernel_rfl
theorem sh31 : shortC A31 b31 = c31 := by kernel_rfl
theorem ok31 : (okSlots Try.f31.ntmps b31 && okRecs A31 b31) = true := by kernel_rfl
def rs31 : List ResultVar := [(ResultVar.cell 2 40), (ResultVar.tmp 3), (ResultVar.tmp 4)]
theorem hr31 : Try.f31.results.toList = rs31 := by kernel_rfl
/-! parquetry/axes.Sliced (3 parameters; calls none) -/
def A160 : Ann := { live := fun i => if i = 4 then [1, 2, 21, 22, 23] else [], drop := fun i => false }
noncomputable def c160 : Cc :=
  (.seq (.reg false [⟨some 6, (Op.assign (Operand.const (Value.int IntKind.i64 0))), none⟩])
  (.seq (.seq (.reg false [⟨some 9, (Op.move (Operand.tmp 1)), none⟩,
    ⟨some 10, (Op.call { callee := (Callee.builtin Builtin.len), args := #[(Operand.tmp 9)], argTypes := #[22] }), none⟩,
    ⟨some 11, (Op.move (Operand.tmp 0)), none⟩,
    ⟨some 12, (Op.call { callee := (Callee.builtin Builtin.len), args := #[(Operand.tmp 11)], argTypes := #[22] }), none⟩,
    ⟨some 13, (Op.binOp BinOp.neq 3 (Operand.tmp 10) (Operand.tmp 12) 3), none⟩,
    ⟨some 14, (Op.move (Operand.tmp 13)), none⟩,
    ⟨some 15, (Op.move (Operand.tmp 2)), some (14, false)⟩,
    ⟨some 16, (Op.call { callee := (Callee.builtin Builtin.len), args := #[(Operand.tmp 15)], argTypes := #[22] }), some (14, false)⟩,
    ⟨some 17, (Op.move (Operand.tmp 0)), some (14, false)⟩,
    ⟨some 18, (Op.call { callee := (Callee.builtin Builtin.len), args := #[(Operand.tmp 17)], argTypes := #[22] }), some (14, false)⟩,
    ⟨some 19, (Op.binOp BinOp.neq 3 (Operand.tmp 16) (Operand.tmp 18) 3), some (14, false)⟩,
    ⟨some 20, (Op.pick (Operand.tmp 14) (Operand.const (Value.bool true)) (Operand.tmp 19)), none⟩])
  (.cond (Operand.tmp 20)
    (.seq (.reg false [⟨some 6, (Op.assign (Operand.const (Value.int IntKind.i64 1))), none⟩])
    .ret)
    .skip))
  (.seq (.seq (.reg false [⟨some 21, (Op.move (Operand.tmp 0)), none⟩,
    ⟨some 22, (Op.call { callee := (Callee.builtin Builtin.len), args := #[(Operand.tmp 21)], argTypes := #[22] }), none⟩,
    ⟨some 23, (Op.move (Operand.const (Value.int IntKind.i64 0))), none⟩])
  (.block 0 (.loop [1, 2, 21, 22, 23] false
    (.seq (.reg false [⟨some 24, (Op.binOp BinOp.lss 3 (Operand.tmp 23) (Operand.tmp 22) 3), none⟩])
    (.seq (.cond (Operand.tmp 24)
      .skip
      (.exit 0))
    (.seq (.block 1 (.seq (.reg false [⟨some 25, (Op.move (Operand.tmp 23)), none⟩,
      ⟨some 26, (Op.indexAddr 22 (Operand.tmp 21) (Operand.tmp 23)), none⟩,
      ⟨some 27, (Op.load 3 (Operand.tmp 26)), none⟩,
      ⟨some 7, (Op.assign (Operand.tmp 25)), none⟩,
      ⟨some 8, (Op.assign (Operand.tmp 27)), none⟩])
    (.seq (.reg false [⟨some 28, (Op.move (Operand.tmp 1)), none⟩,
      ⟨some 29, (Op.move (Operand.tmp 7)), none⟩,
      ⟨some 30, (Op.indexAddr 22 (Operand.tmp 28) (Operand.tmp 29)), none⟩,
      ⟨some 31, (Op.load 3 (Operand.tmp 30)), none⟩,
      ⟨some 32, (Op.binOp BinOp.lss 3 (Operand.tmp 31) (Operand.const (Value.int IntKind.i64 0)) 3), none⟩,
      ⟨some 33, (Op.move (Operand.tmp 32)), none⟩,
      ⟨some 34, (Op.move (Operand.tmp 1)), some (33, false)⟩,
      ⟨some 35, (Op.move (Operand.tmp 7)), some (33, false)⟩,
      ⟨some 36, (Op.indexAddr 22 (Operand.tmp 34) (Operand.tmp 35)), some (33, false)⟩,
      ⟨some 37, (Op.load 3 (Operand.tmp 36)), some (33, false)⟩,
      ⟨some 38, (Op.move (Operand.tmp 8)), some (33, false)⟩,
      ⟨some 39, (Op.binOp BinOp.gtr 3 (Operand.tmp 37) (Operand.tmp 38) 3), some (33, false)⟩,
      ⟨some 40, (Op.pick (Operand.tmp 33) (Operand.const (Value.bool true)) (Operand.tmp 39)), none⟩,
      ⟨some 41, (Op.move (Operand.tmp 40)), none⟩,
      ⟨some 42, (Op.move (Operand.tmp 2)), some (41, false)⟩,
      ⟨some 43, (Op.move (Operand.tmp 7)), some (41, false)⟩,
      ⟨some 44, (Op.indexAddr 22 (Operand.tmp 42) (Operand.tmp 43)), some (41, false)⟩,
      ⟨some 45, (Op.load 3 (Operand.tmp 44)), some (41, false)⟩,
      ⟨some 46, (Op.binOp BinOp.lss 3 (Operand.tmp 45) (Operand.const (Value.int IntKind.i64 0)) 3), some (41, false)⟩,
      ⟨some 47, (Op.pick (Operand.tmp 41) (Operand.const (Value.bool true)) (Operand.tmp 46)), none⟩,
      ⟨some 48, (Op.move (Operand.tmp 47)), none⟩,
      ⟨some 49, (Op.move (Operand.tmp 2)), some (48, false)⟩,
      ⟨some 50, (Op.move (Operand.tmp 7)), some (48, false)⟩,
      ⟨some 51, (Op.indexAddr 22 (Operand.tmp 49) (Operand.tmp 50)), some (48, false)⟩,
      ⟨some 52, (Op.load 3 (Operand.tmp 51)), some (48, false)⟩,
      ⟨some 53, (Op.move (Operand.tmp 8)), some (48, false)⟩,
      ⟨some 54, (Op.move (Operand.tmp 1)), some (48, false)⟩,
      ⟨some 55, (Op.move (Operand.tmp 7)), some (48, false)⟩,
      ⟨some 56, (Op.indexAddr 22 (Operand.tmp 54) (Operand.tmp 55)), some (48, false)⟩,
      ⟨some 57, (Op.load 3 (Operand.tmp 56)), some (48, false)⟩,
      ⟨some 58, (Op.binOp BinOp.sub 3 (Operand.tmp 53) (Operand.tmp 57) 3), some (48, false)⟩,
      ⟨some 59, (Op.binOp BinOp.gtr 3 (Operand.tmp 52) (Operand.tmp 58) 3), some (48, false)⟩,
      ⟨some 60, (Op.pick (Operand.tmp 48) (Operand.const (Value.bool true)) (Operand.tmp 59)), none⟩])
    (.cond (Operand.tmp 60)
      (.seq (.reg false [⟨some 6, (Op.assign (Operand.const (Value.int IntKind.i64 1))), none⟩])
      .ret)
      .skip))))
    (.reg false [⟨some 61, (Op.binOp BinOp.add 3 (Operand.tmp 23) (Operand.const (Value.int IntKind.i64 1)) 3), none⟩,
      ⟨some 23, (Op.move (Operand.tmp 61)), none⟩])))))))
  (.seq (.reg false [⟨some 6, (Op.assign (Operand.const (Value.int IntKind.i64 0))), none⟩])
  .ret))))
noncomputable def b160 : Code := Try.f160.body.getD .skip
theorem hb160 : Try.f160.body = some b160 := by kernel_rfl
theorem sh160 : shortC A160 b160 = c160 := by kernel_rfl
theorem ok160 : (okSlots Try.f160.ntmps b160 && okRecs A160 b160) = true := by kernel_rfl
def rs160 : List ResultVar := [(ResultVar.tmp 6)]
theorem hr160 : Try.f160.results.toList = rs160 := by kernel_rfl
/-! parquetry/axes.Slice$1 (1 parameters; calls 162 parquetry/axes.at) -/
def A161 : Ann := { live := fun i => if i = 2 then [0, 2, 7, 8, 9] else [], drop := fun i => false }
noncomputable def c161 : Cc :=
  (.seq (.reg false [⟨some 4, (Op.assign (Operand.const (Value.int IntKind.i64 0))), none⟩])
  (.seq (.seq (.reg false [⟨some 7, (Op.load 22 (Operand.tmp 1)), none⟩,
    ⟨some 8, (Op.call { callee := (Callee.builtin Builtin.len), args := #[(Operand.tmp 7)], argTypes := #[22] }), none⟩,
    ⟨some 9, (Op.move (Operand.const (Value.int IntKind.i64 0))), none⟩])
  (.block 0 (.loop [0, 2, 7, 8, 9] false
    (.seq (.reg false [⟨some 10, (Op.binOp BinOp.lss 3 (Operand.tmp 9) (Operand.tmp 8) 3), none⟩])
    (.seq (.cond (Operand.tmp 10)
      .skip
      (.exit 0))
    (.seq (.block 1 (.seq (.reg false [⟨some 11, (Op.move (Operand.tmp 9)), none⟩,
      ⟨some 12, (Op.indexAddr 22 (Operand.tmp 7) (Operand.tmp 9)), none⟩,
      ⟨some 13, (Op.load 3 (Operand.tmp 12)), none⟩,
      ⟨some 5, (Op.assign (Operand.tmp 11)), none⟩,
      ⟨some 6, (Op.assign (Operand.tmp 13)), none⟩])
    (.reg false [⟨some 14, (Op.move (Operand.tmp 0)), none⟩,
      ⟨some 15, (Op.move (Operand.tmp 5)), none⟩,
      ⟨some 16, (Op.indexAddr 22 (Operand.tmp 14) (Operand.tmp 15)), none⟩,
      ⟨some 17, (Op.load 3 (Operand.tmp 16)), none⟩,
      ⟨some 18, (Op.move (Operand.tmp 6)), none⟩,
      ⟨some 19, (Op.binOp BinOp.add 3 (Operand.tmp 17) (Operand.tmp 18) 3), none⟩,
      ⟨some 20, (Op.indexAddr 22 (Operand.tmp 14) (Operand.tmp 15)), none⟩,
      ⟨none, (Op.store 3 (Operand.tmp 20) (Operand.tmp 19)), none⟩])))
    (.reg false [⟨some 21, (Op.binOp BinOp.add 3 (Operand.tmp 9) (Operand.const (Value.int IntKind.i64 1)) 3), none⟩,
      ⟨some 9, (Op.move (Operand.tmp 21)), none⟩])))))))
  (.seq (.reg false [⟨some 22, (Op.load 40 (Operand.tmp 2)), none⟩,
    ⟨some 23, (Op.move (Operand.tmp 0)), none⟩,
    ⟨some 24, (Op.call { callee := (Callee.value (Operand.func 162)), args := #[(Operand.tmp 22), (Operand.tmp 23)], argTypes := #[40, 22] }), none⟩,
    ⟨some 4, (Op.assign (Operand.tmp 24)), none⟩])
  .ret)))
noncomputable def b161 : Code := Try.f161.body.getD .skip
theorem hb161 : Try.f161.body = some b161 := by kernel_rfl
theorem sh161 : shortC A161 b161 = c161 := by kernel_rfl
theorem ok161 : (okSlots Try.f161.ntmps b161 && okRecs A161 b161) = true := by kernel_rfl
def rs161 : List ResultVar := [(ResultVar.tmp 4)]
theorem hr161 : Try.f161.results.toList = rs161 := by kernel_rfl
/-! parquetry/axes.Slice (3 parameters; calls 91 parquetry/tensor.Right, 138 parquetry/tensor.Made, 160 parquetry/axes.Sliced) -/
def A134 : Ann := { drop := fun i => false }
noncomputable def c134 : Cc :=
  (.seq (.reg false [⟨some 3, (Op.box 40 (Operand.tmp 0)), none⟩,
    ⟨some 4, (Op.box 22 (Operand.tmp 1)), none⟩,
    ⟨some 6, (Op.alloc 40), none⟩,
    ⟨some 7, (Op.assign (Operand.const (Value.int IntKind.i64 0))), none⟩])
  (.seq (.seq (.reg false [⟨some 9, (Op.load 40 (Operand.tmp 3)), none⟩,
    ⟨some 10, (Op.call { callee := (Callee.value (Operand.func 91)), args := #[(Operand.tmp 9)], argTypes := #[40] }), none⟩,
    ⟨some 11, (Op.unOp UnOp.not 4 (Operand.tmp 10)), none⟩])
  (.cond (Operand.tmp 11)
    (.seq (.reg false [⟨some 12, (Op.build 40 #[]), none⟩,
      ⟨none, (Op.store 40 (Operand.tmp 6) (Operand.tmp 12)), none⟩,
      ⟨some 7, (Op.assign (Operand.const (Value.int IntKind.i64 13))), none⟩])
    .ret)
    .skip))
  (.seq (.seq (.reg false [⟨some 13, (Op.fieldAddr 40 (Operand.tmp 3) 0), none⟩,
    ⟨some 14, (Op.load 22 (Operand.tmp 13)), none⟩,
    ⟨some 15, (Op.load 22 (Operand.tmp 4)), none⟩,
    ⟨some 16, (Op.move (Operand.tmp 2)), none⟩,
    ⟨some 17, (Op.call { callee := (Callee.value (Operand.func 160)), args := #[(Operand.tmp 14), (Operand.tmp 15), (Operand.tmp 16)], argTypes := #[22, 22, 22] }), none⟩,
    ⟨some 8, (Op.assign (Operand.tmp 17)), none⟩])
  (.seq (.reg false [⟨some 18, (Op.move (Operand.tmp 8)), none⟩,
    ⟨some 19, (Op.binOp BinOp.neq 46 (Operand.tmp 18) (Operand.const (Value.int IntKind.i64 0)) 46), none⟩])
  (.cond (Operand.tmp 19)
    (.seq (.reg false [⟨some 20, (Op.build 40 #[]), none⟩,
      ⟨some 21, (Op.move (Operand.tmp 8)), none⟩,
      ⟨none, (Op.store 40 (Operand.tmp 6) (Operand.tmp 20)), none⟩,
      ⟨some 7, (Op.assign (Operand.tmp 21)), none⟩])
    .ret)
    .skip)))
  (.seq (.reg false [⟨some 22, (Op.move (Operand.tmp 2)), none⟩,
    ⟨some 23, (Op.makeFunc (Fn.func 161) #[] #[(Operand.tmp 4), (Operand.tmp 3)]), none⟩,
    ⟨some 24, (Op.call { callee := (Callee.value (Operand.func 138)), args := #[(Operand.tmp 22), (Operand.tmp 23)], argTypes := #[22, 147] }), none⟩,
    ⟨none, (Op.store 40 (Operand.tmp 6) (Operand.tmp 24)), none⟩,
    ⟨some 7, (Op.assign (Operand.const (Value.int IntKind.i64 0))), none⟩])
  .ret))))
noncomputable def b134 : Code := Try.f134.body.getD .skip
theorem hb134 : Try.f134.body = some b134 := by kernel_rfl
theorem sh134 : shortC A134 b134 = c134 := by kernel_rfl
theorem ok134 : (okSlots Try.f134.ntmps b134 && okRecs A134 b134) = true := by kernel_rfl
def rs134 : List ResultVar := [(ResultVar.cell 6 40), (ResultVar.tmp 7)]
theorem hr134 : Try.f134.results.toList = rs134 := by kernel_rfl
/-! parquetry/split.Part (4 parameters; calls 21 parquetry/tile.Size, 22 parquetry/tile.From, 87 parquetry/split.may, 88 parquetry/mesh.Devices, 134 parquetry/axes.Slice) -/
def A81 : Ann := { recs := fun i => if i = 6 then [(0, 7), (0, 13), (7, 6), (8, 6), (9, 6), (10, 6), (11, 6)] else [], drop := fun i => false }
noncomputable def c81 : Cc :=
  (.seq (.reg false [⟨some 4, (Op.box 40 (Operand.tmp 0)), none⟩,
    ⟨some 8, (Op.alloc 40), none⟩,
    ⟨some 9, (Op.assign (Operand.const (Value.int IntKind.i64 0))), none⟩])
  (.seq (.seq (.reg false [⟨some 11, (Op.load 40 (Operand.tmp 4)), none⟩,
    ⟨some 12, (Op.move (Operand.tmp 1)), none⟩,
    ⟨some 13, (Op.move (Operand.tmp 2)), none⟩,
    ⟨some 14, (Op.call { callee := (Callee.value (Operand.func 87)), args := #[(Operand.tmp 11), (Operand.tmp 12), (Operand.tmp 13)], argTypes := #[40, 22, 22] }), none⟩,
    ⟨some 10, (Op.assign (Operand.tmp 14)), none⟩])
  (.seq (.reg false [⟨some 15, (Op.move (Operand.tmp 10)), none⟩,
    ⟨some 16, (Op.binOp BinOp.neq 46 (Operand.tmp 15) (Operand.const (Value.int IntKind.i64 0)) 46), none⟩])
  (.cond (Operand.tmp 16)
    (.seq (.reg false [⟨some 17, (Op.build 40 #[]), none⟩,
      ⟨some 18, (Op.move (Operand.tmp 10)), none⟩,
      ⟨none, (Op.store 40 (Operand.tmp 8) (Operand.tmp 17)), none⟩,
      ⟨some 9, (Op.assign (Operand.tmp 18)), none⟩])
    .ret)
    .skip)))
  (.seq (.seq (.reg false [⟨some 19, (Op.move (Operand.tmp 3)), none⟩,
    ⟨some 20, (Op.binOp BinOp.lss 3 (Operand.tmp 19) (Operand.const (Value.int IntKind.i64 0)) 3), none⟩,
    ⟨some 21, (Op.move (Operand.tmp 20)), none⟩,
    ⟨some 22, (Op.move (Operand.tmp 3)), some (21, false)⟩,
    ⟨some 23, (Op.move (Operand.tmp 1)), some (21, false)⟩,
    ⟨some 24, (Op.call { callee := (Callee.value (Operand.func 88)), args := #[(Operand.tmp 23)], argTypes := #[22] }), some (21, false)⟩,
    ⟨some 25, (Op.binOp BinOp.geq 3 (Operand.tmp 22) (Operand.tmp 24) 3), some (21, false)⟩,
    ⟨some 26, (Op.pick (Operand.tmp 21) (Operand.const (Value.bool true)) (Operand.tmp 25)), none⟩])
  (.cond (Operand.tmp 26)
    (.seq (.reg false [⟨some 27, (Op.build 40 #[]), none⟩,
      ⟨none, (Op.store 40 (Operand.tmp 8) (Operand.tmp 27)), none⟩,
      ⟨some 9, (Op.assign (Operand.const (Value.int IntKind.i64 23))), none⟩])
    .ret)
    .skip))
  (.seq (.drw false [⟨some 28, (Op.load 40 (Operand.tmp 4)), none⟩,
    ⟨some 29, (Op.fieldAddr 40 (Operand.tmp 4) 0), none⟩,
    ⟨some 30, (Op.load 22 (Operand.tmp 29)), none⟩,
    ⟨some 31, (Op.move (Operand.tmp 1)), none⟩,
    ⟨some 32, (Op.move (Operand.tmp 2)), none⟩,
    ⟨some 33, (Op.move (Operand.tmp 3)), none⟩,
    ⟨some 34, (Op.call { callee := (Callee.value (Operand.func 22)), args := #[(Operand.tmp 30), (Operand.tmp 31), (Operand.tmp 32), (Operand.tmp 33)], argTypes := #[22, 22, 22, 3] }), none⟩,
    ⟨some 35, (Op.fieldAddr 40 (Operand.tmp 4) 0), none⟩,
    ⟨some 36, (Op.load 22 (Operand.tmp 35)), none⟩,
    ⟨some 37, (Op.move (Operand.tmp 1)), none⟩,
    ⟨some 38, (Op.move (Operand.tmp 2)), none⟩,
    ⟨some 39, (Op.move (Operand.tmp 3)), none⟩,
    ⟨some 40, (Op.call { callee := (Callee.value (Operand.func 21)), args := #[(Operand.tmp 36), (Operand.tmp 37), (Operand.tmp 38), (Operand.tmp 39)], argTypes := #[22, 22, 22, 3] }), none⟩,
    ⟨some 41, (Op.call { callee := (Callee.value (Operand.func 134)), args := #[(Operand.tmp 28), (Operand.tmp 34), (Operand.tmp 40)], argTypes := #[40, 22, 22] }), none⟩,
    ⟨some 42, (Op.extract (Operand.tmp 41) 0), none⟩,
    ⟨some 43, (Op.extract (Operand.tmp 41) 1), none⟩,
    ⟨none, (Op.store 40 (Operand.tmp 8) (Operand.tmp 42)), none⟩,
    ⟨some 9, (Op.assign (Operand.tmp 43)), none⟩] [(0, 7), (0, 13), (8, 6)])
  .ret))))
noncomputable def b81 : Code := Try.f81.body.getD .skip
theorem hb81 : Try.f81.body = some b81 := by kernel_rfl
theorem sh81 : shortC A81 b81 = c81 := by kernel_rfl
theorem ok81 : (okSlots Try.f81.ntmps b81 && okRecs A81 b81) = true := by kernel_rfl
def rs81 : List ResultVar := [(ResultVar.cell 8 40), (ResultVar.tmp 9)]
theorem hr81 : Try.f81.results.toList = rs81 := by kernel_rfl
/-! parquetry/split.All (3 parameters; calls 81 parquetry/split.Part, 87 parquetry/split.may, 88 parquetry/mesh.Devices) -/
def A37 : Ann := { live := fun i => if i = 6 then [1, 2, 3, 9, 21, 22] else [], drop := fun i => false }
noncomputable def c37 : Cc :=
  (.seq (.reg false [⟨some 3, (Op.box 40 (Operand.tmp 0)), none⟩,
    ⟨some 6, (Op.assign (Operand.const (Value.slice none 0 0))), none⟩,
    ⟨some 7, (Op.assign (Operand.const (Value.int IntKind.i64 0))), none⟩])
  (.seq (.seq (.reg false [⟨some 13, (Op.load 40 (Operand.tmp 3)), none⟩,
    ⟨some 14, (Op.move (Operand.tmp 1)), none⟩,
    ⟨some 15, (Op.move (Operand.tmp 2)), none⟩,
    ⟨some 16, (Op.call { callee := (Callee.value (Operand.func 87)), args := #[(Operand.tmp 13), (Operand.tmp 14), (Operand.tmp 15)], argTypes := #[40, 22, 22] }), none⟩,
    ⟨some 8, (Op.assign (Operand.tmp 16)), none⟩])
  (.seq (.reg false [⟨some 17, (Op.move (Operand.tmp 8)), none⟩,
    ⟨some 18, (Op.binOp BinOp.neq 46 (Operand.tmp 17) (Operand.const (Value.int IntKind.i64 0)) 46), none⟩])
  (.cond (Operand.tmp 18)
    (.seq (.reg false [⟨some 19, (Op.move (Operand.tmp 8)), none⟩,
      ⟨some 6, (Op.assign (Operand.const (Value.slice none 0 0))), none⟩,
      ⟨some 7, (Op.assign (Operand.tmp 19)), none⟩])
    .ret)
    .skip)))
  (.seq (.reg false [⟨some 9, (Op.assign (Operand.const (Value.slice none 0 0))), none⟩])
  (.seq (.seq (.reg false [⟨some 20, (Op.move (Operand.tmp 1)), none⟩,
    ⟨some 21, (Op.call { callee := (Callee.value (Operand.func 88)), args := #[(Operand.tmp 20)], argTypes := #[22] }), none⟩,
    ⟨some 22, (Op.move (Operand.const (Value.int IntKind.i64 0))), none⟩])
  (.block 0 (.loop [1, 2, 3, 9, 21, 22] false
    (.seq (.reg false [⟨some 23, (Op.binOp BinOp.lss 3 (Operand.tmp 22) (Operand.tmp 21) 3), none⟩])
    (.seq (.cond (Operand.tmp 23)
      .skip
      (.exit 0))
    (.seq (.block 1 (.seq (.reg false [⟨some 24, (Op.move (Operand.tmp 22)), none⟩,
      ⟨some 10, (Op.assign (Operand.tmp 24)), none⟩])
    (.seq (.reg false [⟨some 26, (Op.load 40 (Operand.tmp 3)), none⟩,
      ⟨some 27, (Op.move (Operand.tmp 1)), none⟩,
      ⟨some 28, (Op.move (Operand.tmp 2)), none⟩,
      ⟨some 29, (Op.move (Operand.tmp 10)), none⟩,
      ⟨some 30, (Op.call { callee := (Callee.value (Operand.func 81)), args := #[(Operand.tmp 26), (Operand.tmp 27), (Operand.tmp 28), (Operand.tmp 29)], argTypes := #[40, 22, 22, 3] }), none⟩,
      ⟨some 25, (Op.move (Operand.tmp 30)), none⟩,
      ⟨some 31, (Op.extract (Operand.tmp 25) 0), none⟩,
      ⟨some 32, (Op.extract (Operand.tmp 25) 1), none⟩,
      ⟨some 11, (Op.alloc 40), none⟩,
      ⟨none, (Op.store 40 (Operand.tmp 11) (Operand.tmp 31)), none⟩,
      ⟨some 12, (Op.assign (Operand.tmp 32)), none⟩])
    (.seq (.seq (.reg false [⟨some 33, (Op.move (Operand.tmp 12)), none⟩,
      ⟨some 34, (Op.binOp BinOp.neq 46 (Operand.tmp 33) (Operand.const (Value.int IntKind.i64 0)) 46), none⟩])
    (.cond (Operand.tmp 34)
      (.seq (.reg false [⟨some 35, (Op.move (Operand.tmp 12)), none⟩,
        ⟨some 6, (Op.assign (Operand.const (Value.slice none 0 0))), none⟩,
        ⟨some 7, (Op.assign (Operand.tmp 35)), none⟩])
      .ret)
      .skip))
    (.reg false [⟨some 36, (Op.move (Operand.tmp 9)), none⟩,
      ⟨some 37, (Op.load 40 (Operand.tmp 11)), none⟩,
      ⟨some 38, (Op.buildSlice 45 1 #[(0, (Operand.tmp 37))]), none⟩,
      ⟨some 39, (Op.call { callee := (Callee.builtin Builtin.append), args := #[(Operand.tmp 36), (Operand.tmp 38)], argTypes := #[45, 45] }), none⟩,
      ⟨some 9, (Op.assign (Operand.tmp 39)), none⟩])))))
    (.reg false [⟨some 40, (Op.binOp BinOp.add 3 (Operand.tmp 22) (Operand.const (Value.int IntKind.i64 1)) 3), none⟩,
      ⟨some 22, (Op.move (Operand.tmp 40)), none⟩])))))))
  (.seq (.reg false [⟨some 41, (Op.move (Operand.tmp 9)), none⟩,
    ⟨some 6, (Op.assign (Operand.tmp 41)), none⟩,
    ⟨some 7, (Op.assign (Operand.const (Value.int IntKind.i64 0))), none⟩])
  .ret)))))
noncomputable def b37 : Code := Try.f37.body.getD .skip
theorem hb37 : Try.f37.body = some b37 := by kernel_rfl
theorem sh37 : shortC A37 b37 = c37 := by kernel_rfl
theorem ok37 : (okSlots Try.f37.ntmps b37 && okRecs A37 b37) = true := by kernel_rfl
def rs37 : List ResultVar := [(ResultVar.tmp 6), (ResultVar.tmp 7)]
theorem hr37 : Try.f37.results.toList = rs37 := by kernel_rfl
/- Functions in short form. -/
/-! parquetry/tensor.place (2 parameters; calls 91 parquetry/tensor.Right, 96 parquetry/shape.Index) -/
def A182 : Ann := { drop := fun i => false }
noncomputable def c182 : Cc :=
  (.seq (.reg false [⟨some 2, (Op.box 40 (Operand.tmp 0)), none⟩,
    ⟨some 4, (Op.assign (Operand.const (Value.int IntKind.i64 0))), none⟩])
  (.seq (.seq (.reg false [⟨some 5, (Op.load 40 (Operand.tmp 2)), none⟩,
    ⟨some 6, (Op.call { callee := (Callee.value (Operand.func 91)), args := #[(Operand.tmp 5)], argTypes := #[40] }), none⟩,
    ⟨some 7, (Op.unOp UnOp.not 4 (Operand.tmp 6)), none⟩])
  (.cond (Operand.tmp 7)
    (.seq (.reg false [⟨some 4, (Op.assign (Operand.const (Value.int IntKind.i64 (-1)))), none⟩])
    .ret)
    .skip))
  (.seq (.reg false [⟨some 8, (Op.fieldAddr 40 (Operand.tmp 2) 0), none⟩,
    ⟨some 9, (Op.load 22 (Operand.tmp 8)), none⟩,
    ⟨some 10, (Op.move (Operand.tmp 1)), none⟩,
    ⟨some 11, (Op.call { callee := (Callee.value (Operand.func 96)), args := #[(Operand.tmp 9), (Operand.tmp 10)], argTypes := #[22, 22] }), none⟩,
    ⟨some 4, (Op.assign (Operand.tmp 11)), none⟩])
  .ret)))
noncomputable def b182 : Code := Try.f182.body.getD .skip
theorem hb182 : Try.f182.body = some b182 := by kernel_rfl
theorem sh182 : shortC A182 b182 = c182 := by kernel_rfl
theorem ok182 : (okSlots Try.f182.ntmps b182 && okRecs A182 b182) = true := by kernel_rfl
def rs182 : List ResultVar := [(ResultVar.tmp 4)]
theorem hr182 : Try.f182.results.toList = rs182 := by kernel_rfl
/-! parquetry/tensor.Get (2 parameters; calls 182 parquetry/tensor.place) -/
def A174 : Ann := { drop := fun i => false }
noncomputable def c174 : Cc :=
  (.seq (.reg false [⟨some 2, (Op.box 40 (Operand.tmp 0)), none⟩,
    ⟨some 4, (Op.assign (Operand.const (Value.int IntKind.i64 0))), none⟩,
    ⟨some 5, (Op.assign (Operand.const (Value.bool false))), none⟩])
  (.seq (.reg false [⟨some 7, (Op.load 40 (Operand.tmp 2)), none⟩,
    ⟨some 8, (Op.move (Operand.tmp 1)), none⟩,
    ⟨some 9, (Op.call { callee := (Callee.value (Operand.func 182)), args := #[(Operand.tmp 7), (Operand.tmp 8)], argTypes := #[40, 22] }), none⟩,
    ⟨some 6, (Op.assign (Operand.tmp 9)), none⟩])
  (.seq (.seq (.reg false [⟨some 10, (Op.move (Operand.tmp 6)), none⟩,
    ⟨some 11, (Op.binOp BinOp.lss 3 (Operand.tmp 10) (Operand.const (Value.int IntKind.i64 0)) 3), none⟩])
  (.cond (Operand.tmp 11)
    (.seq (.reg false [⟨some 4, (Op.assign (Operand.const (Value.int IntKind.i64 0))), none⟩,
      ⟨some 5, (Op.assign (Operand.const (Value.bool false))), none⟩])
    .ret)
    .skip))
  (.seq (.reg false [⟨some 12, (Op.fieldAddr 40 (Operand.tmp 2) 1), none⟩,
    ⟨some 13, (Op.load 38 (Operand.tmp 12)), none⟩,
    ⟨some 14, (Op.move (Operand.tmp 6)), none⟩,
    ⟨some 15, (Op.indexAddr 38 (Operand.tmp 13) (Operand.tmp 14)), none⟩,
    ⟨some 16, (Op.load 2 (Operand.tmp 15)), none⟩,
    ⟨some 4, (Op.assign (Operand.tmp 16)), none⟩,
    ⟨some 5, (Op.assign (Operand.const (Value.bool true))), none⟩])
  .ret))))
noncomputable def b174 : Code := Try.f174.body.getD .skip
theorem hb174 : Try.f174.body = some b174 := by kernel_rfl
theorem sh174 : shortC A174 b174 = c174 := by kernel_rfl
theorem ok174 : (okSlots Try.f174.ntmps b174 && okRecs A174 b174) = true := by kernel_rfl
def rs174 : List ResultVar := [(ResultVar.tmp 4), (ResultVar.tmp 5)]
theorem hr174 : Try.f174.results.toList = rs174 := by kernel_rfl
/-! parquetry/axes.at (2 parameters; calls 174 parquetry/tensor.Get) -/
def A162 : Ann := { drop := fun i => false }
noncomputable def c162 : Cc :=
  (.seq (.reg false [⟨some 2, (Op.box 40 (Operand.tmp 0)), none⟩,
    ⟨some 4, (Op.assign (Operand.const (Value.int IntKind.i64 0))), none⟩])
  (.seq (.reg false [⟨some 8, (Op.load 40 (Operand.tmp 2)), none⟩,
    ⟨some 9, (Op.move (Operand.tmp 1)), none⟩,
    ⟨some 10, (Op.call { callee := (Callee.value (Operand.func 174)), args := #[(Operand.tmp 8), (Operand.tmp 9)], argTypes := #[40, 22] }), none⟩,
    ⟨some 7, (Op.move (Operand.tmp 10)), none⟩,
    ⟨some 11, (Op.extract (Operand.tmp 7) 0), none⟩,
    ⟨some 12, (Op.extract (Operand.tmp 7) 1), none⟩,
    ⟨some 5, (Op.assign (Operand.tmp 11)), none⟩,
    ⟨some 6, (Op.assign (Operand.tmp 12)), none⟩])
  (.seq (.reg false [⟨some 13, (Op.move (Operand.tmp 5)), none⟩,
    ⟨some 4, (Op.assign (Operand.tmp 13)), none⟩])
  .ret)))
noncomputable def b162 : Code := Try.f162.body.getD .skip
theorem hb162 : Try.f162.body = some b162 := by kernel_rfl
theorem sh162 : shortC A162 b162 = c162 := by kernel_rfl
theorem ok162 : (okSlots Try.f162.ntmps b162 && okRecs A162 b162) = true := by kernel_rfl
def rs162 : List ResultVar := [(ResultVar.tmp 4)]
theorem hr162 : Try.f162.results.toList = rs162 := by kernel_rfl
/- Walks: a tensor's number at a place. -/
theorem pow32 (k : Nat) (h : k ≤ 4) : ((32 ^ k : Nat) : Int) ≤ 1048576 := by
  have : 32 ^ k ≤ 32 ^ 4 := Nat.pow_le_pow_right (by decide) h
  have h4 : (32 : Nat) ^ 4 = 1048576 := by decide
  omega
theorem ofGo_lt : ∀ (s l : List Int) (d P : Int) (k : Nat), k + s.length ≤ 4 → (∀ j : Nat, j < s.length → 0 ≤ nth s j ∧ nth s j ≤ 32) → 0 ≤ d → d < P → P ≤ ((32 ^ k : Nat) : Int) → (0 ≤ ofGo d s l ∧ ofGo d s l < prodW P s) ∨ ofGo d s l = -1 ∨ s.length ≠ l.length := by
  intro s
  induction s with
  | nil =>
    intro l d P k _ _ h0 h1 _
    cases l with
    | nil => exact .inl ⟨h0, h1⟩
    | cons => exact .inr (.inr (by simp))
  | cons x s ih =>
    intro l d P k hk hs h0 h1 hP
    cases l with
    | nil => exact .inr (.inr (by simp))
    | cons y l =>
      simp only [ofGo, prodW]
      by_cases hy : y < 0 ∨ x ≤ y
      · rw [if_pos hy]; exact .inr (.inl rfl)
      · rw [if_neg hy]
        have hx := hs 0 (by simp)
        have hx' : 0 ≤ x ∧ x ≤ 32 := by simpa [nth] using hx
        have hk1 := pow32 k (by simp at hk; omega)
        have hk2 := pow32 (k + 1) (by simp at hk; omega)
        have hpk : ((32 ^ (k + 1) : Nat) : Int) = ((32 ^ k : Nat) : Int) * 32 := by rw [Nat.pow_succ]; simp
        have hPx := mul_rng (a := P) (b := x) (A := ((32 ^ k : Nat) : Int)) (B := 32) (by omega) hx'
        have hdx := mul_rng (a := d) (b := x) (A := P - 1) (B := x) (by omega) (by omega)
        have hs1 : (P - 1) * x = P * x - x := by rw [Int.sub_mul, Int.one_mul]
        rw [w_id (x := d * x) (by omega), w_id (x := d * x + y) (by omega), w_id (x := P * x) (by omega)]
        have := ih l (d * x + y) (P * x) (k + 1) (by simp at hk; omega) (fun j hj => by simpa [nth] using hs (j + 1) (by simpa using hj)) (by omega) (by omega) (by omega)
        rcases this with h | h | h
        · exact .inl h
        · exact .inr (.inl h)
        · exact .inr (.inr (by simpa using h))
theorem idxL_lt (s l : List Int) : idxL s l = -1 ∨ (0 ≤ idxL s l ∧ idxL s l < sizeOf s) := by
  unfold idxL
  by_cases h : shapeOK s = false ∨ l.length ≠ s.length
  · rw [if_pos h]; exact .inl rfl
  · rw [if_neg h]
    have hs : shapeOK s = true := by
      cases hc : shapeOK s
      · exact absurd (.inl hc) h
      · rfl
    have hl : l.length = s.length := Decidable.byContradiction fun e => h (.inr e)
    obtain ⟨h4, hr⟩ := shapeOK_rng hs
    have hz : sizeOf s = prodW 1 s := by simp [sizeOf, hs]
    rcases ofGo_lt s l 0 1 0 (by omega) hr (by omega) (by omega) (by simp) with h1 | h1 | h1
    · rw [hz]; exact .inr h1
    · exact .inl h1
    · exact absurd hl.symm h1
/-- The number of a place of a tensor; -1: it is none. -/
def plT (p : List Int × List Int) (l : List Int) : Int := if tOK p = true then idxL p.1 l else -1
def F182 (args : List AV) (H : Hp) : Option AV := match args with
  | [t, a] => (tens H t).bind fun p => (ints H a).map fun l => .int .i64 (plT p l)
  | _ => none
theorem snd182 : Sound Try.prog 182 (FSem.pure F182).run := by
  refine sound_of hT (EOK_cons snd91 (EOK_cons snd96 (EOK_nil _))) mixed A182 Try.func182 hb182 (by kernel_rfl) (by kernel_rfl) (by kernel_rfl) (by kernel_rfl) sh182 2 (by kernel_rfl) rs182 hr182 ?_
  intro args H r H' hw h
  obtain ⟨rfl, hv⟩ := pureAt h
  clear h
  unfold F182 at hv
  split at hv
  · rename_i t a
    obtain ⟨⟨s, d⟩, ht, hv⟩ := Option.bind_eq_some_iff.1 hv
    obtain ⟨l, hl, hv⟩ := Option.map_eq_some_iff.1 hv
    cases hv
    obtain ⟨x, y, rfl, hs, hd⟩ := tens_some ht
    have hbx := abox_agg H' (ints_one' hs) (ints_one' hd)
    have hat := new_at H' [x, y]
    have l1 := ld22 hat 0
    have l3 := ld40 hat
    have hP : Pre H' (H'.new [x, y]) := Pre.new (Pre.refl _) _
    have hs1 := ints_ext hP hs
    have ht1 := tens_ext hP ht
    have hl1 := ints_ext hP hl
    simp only [List.getElem?_cons_zero] at l1
    refine ⟨rfl, go ?_⟩
    unfold c182
    simp only [argSl]
    generalize H'.new [x, y] = H1 at *
    generalize H'.bs.length = b at l1 l3 hbx
    generalize H'.c = ver at l1 l3 hbx
    clear hs hd hat ht hl
    replace hP := Hide.mk hP
    rcases h1 : tOK (s, d) with _ | _
    · repeat' (first | apply goSeq | apply goReg | apply goSeqN | apply goSeqR | apply goSkip | apply goRet | apply goNil | apply goBlock | apply goExit | apply goBlkN | apply goBlkR | apply goBlkE | apply goSeqE | apply goLoopR | apply goLoopE | (apply goOp; (· (simp [*]; try exact rfl)); (· exact rfl)) | (apply goOp0; (· (simp [*]; try exact rfl)); (· exact rfl)) | (apply goYes; (· (simp [*]; done)); (· (simp [*]; try exact rfl)); (· exact rfl)) | (apply goNo; (· (simp [*]; done))) | (apply goNoU; (· (simp; exact rfl))) | (apply goIfT; (· (simp [*]; done))) | (apply goIfF; (· (simp [*]; done))) | (apply goIf; (· (simp; exact rfl)); (· with_reducible exact rfl)) | (apply goSplit; (· (simp; exact rfl)); (· with_reducible exact rfl)) | (apply goIfQ; (· (simp; exact rfl)); (· exact rfl)) | (apply goSplitQ; (· (simp; exact rfl)); (· exact rfl)) | (apply goBlkX; (· rfl)) | intro _)
      refine goEnd hw hP.out (by simp) (by simp [rs182]; exact rfl) rfl ?_
      simp [plT, h1]
    · repeat' (first | apply goSeq | apply goReg | apply goSeqN | apply goSeqR | apply goSkip | apply goRet | apply goNil | apply goBlock | apply goExit | apply goBlkN | apply goBlkR | apply goBlkE | apply goSeqE | apply goLoopR | apply goLoopE | (apply goOp; (· (simp [*]; try exact rfl)); (· exact rfl)) | (apply goOp0; (· (simp [*]; try exact rfl)); (· exact rfl)) | (apply goYes; (· (simp [*]; done)); (· (simp [*]; try exact rfl)); (· exact rfl)) | (apply goNo; (· (simp [*]; done))) | (apply goNoU; (· (simp; exact rfl))) | (apply goIfT; (· (simp [*]; done))) | (apply goIfF; (· (simp [*]; done))) | (apply goIf; (· (simp; exact rfl)); (· with_reducible exact rfl)) | (apply goSplit; (· (simp; exact rfl)); (· with_reducible exact rfl)) | (apply goIfQ; (· (simp; exact rfl)); (· exact rfl)) | (apply goSplitQ; (· (simp; exact rfl)); (· exact rfl)) | (apply goBlkX; (· rfl)) | intro _)
      refine goEnd hw hP.out (by simp) (by simp [rs182]; exact rfl) rfl ?_
      simp [plT, h1]
  · cases hv
@[simp] theorem F182_at (t a : AV) (H : Hp) : F182 [t, a] H = (tens H t).bind fun p => (ints H a).map fun l => .int .i64 (plT p l) := rfl
theorem plT_lt (p : List Int × List Int) (l : List Int) : plT p l = -1 ∨ (0 ≤ plT p l ∧ plT p l < p.2.length) := by
  unfold plT
  split
  · rename_i h
    have hz : (p.2.length : Int) = sizeOf p.1 := by simp [tOK] at h; exact h.2
    rcases idxL_lt p.1 l with h1 | h1
    · exact .inl h1
    · rw [hz]; exact .inr h1
  · exact .inl rfl
/-- The number at a place; 0: there is none. -/
def atT (p : List Int × List Int) (l : List Int) : Int := if plT p l < 0 then 0 else nth p.2 (plT p l)
def F174 (args : List AV) (H : Hp) : Option AV := match args with
  | [t, a] => (tens H t).bind fun p => (ints H a).map fun l => .tup [.int .i64 (atT p l), .bool (!decide (plT p l < 0))]
  | _ => none
theorem snd174 : Sound Try.prog 174 (FSem.pure F174).run := by
  refine sound_of hT (EOK_cons snd182 (EOK_nil _)) mixed A174 Try.func174 hb174 (by kernel_rfl) (by kernel_rfl) (by kernel_rfl) (by kernel_rfl) sh174 2 (by kernel_rfl) rs174 hr174 ?_
  intro args H r H' hw h
  obtain ⟨rfl, hv⟩ := pureAt h
  clear h
  unfold F174 at hv
  split at hv
  · rename_i t a
    obtain ⟨⟨s, d⟩, ht, hv⟩ := Option.bind_eq_some_iff.1 hv
    obtain ⟨l, hl, hv⟩ := Option.map_eq_some_iff.1 hv
    cases hv
    obtain ⟨x, y, rfl, hs, hd⟩ := tens_some ht
    have hbx := abox_agg H' (ints_one' hs) (ints_one' hd)
    have hat := new_at H' [x, y]
    have l1 := ld38 hat 1
    have l3 := ld40 hat
    have hP : Pre H' (H'.new [x, y]) := Pre.new (Pre.refl _) _
    have hd1 : ints (H'.new [x, y]) y = some d := ints_ext hP hd
    have ht1 := tens_ext hP ht
    have hl1 := ints_ext hP hl
    have hix := aidxS_ints hd1 .i64
    have hld := aload_nth T2 rfl hd1
    simp only [← aidx38] at hix
    simp only [List.getElem?_cons_zero, List.getElem?_cons_succ] at l1
    have hlt := plT_lt (s, d) l
    refine ⟨rfl, go ?_⟩
    unfold c174
    simp only [argSl]
    generalize H'.new [x, y] = H1 at *
    generalize H'.bs.length = b at l1 l3 hbx
    generalize H'.c = ver at l1 l3 hbx
    clear hs hd hat ht hl hd1
    have hat' : atT (s, d) l = if plT (s, d) l < 0 then 0 else nth d (plT (s, d) l) := rfl
    rw [hat']
    clear hat'
    replace hP := Hide.mk hP
    by_cases h0 : plT (s, d) l < 0
    · clear hlt
      repeat' (first | apply goSeq | apply goReg | apply goSeqN | apply goSeqR | apply goSkip | apply goRet | apply goNil | apply goBlock | apply goExit | apply goBlkN | apply goBlkR | apply goBlkE | apply goSeqE | apply goLoopR | apply goLoopE | (apply goOp; (· (simp [*]; try exact rfl)); (· exact rfl)) | (apply goOp0; (· (simp [*]; try exact rfl)); (· exact rfl)) | (apply goYes; (· (simp [*]; done)); (· (simp [*]; try exact rfl)); (· exact rfl)) | (apply goNo; (· (simp [*]; done))) | (apply goNoU; (· (simp; exact rfl))) | (apply goIfT; (· (simp [*]; done))) | (apply goIfF; (· (simp [*]; done))) | (apply goIf; (· (simp; exact rfl)); (· with_reducible exact rfl)) | (apply goSplit; (· (simp; exact rfl)); (· with_reducible exact rfl)) | (apply goIfQ; (· (simp; exact rfl)); (· exact rfl)) | (apply goSplitQ; (· (simp; exact rfl)); (· exact rfl)) | (apply goBlkX; (· rfl)) | intro _)
      refine goEnd hw hP.out (by simp) (by simp [rs174]; exact rfl) rfl ?_
      simp [h0]
    · have hi0 : 0 ≤ plT (s, d) l := by omega
      have hi1 : plT (s, d) l < d.length := by
        rcases hlt with h | h
        · omega
        · exact h.2
      clear hlt
      repeat' (first | apply goSeq | apply goReg | apply goSeqN | apply goSeqR | apply goSkip | apply goRet | apply goNil | apply goBlock | apply goExit | apply goBlkN | apply goBlkR | apply goBlkE | apply goSeqE | apply goLoopR | apply goLoopE | (apply goOp; (· (simp [*]; try exact rfl)); (· exact rfl)) | (apply goOp0; (· (simp [*]; try exact rfl)); (· exact rfl)) | (apply goYes; (· (simp [*]; done)); (· (simp [*]; try exact rfl)); (· exact rfl)) | (apply goNo; (· (simp [*]; done))) | (apply goNoU; (· (simp; exact rfl))) | (apply goIfT; (· (simp [*]; done))) | (apply goIfF; (· (simp [*]; done))) | (apply goIf; (· (simp; exact rfl)); (· with_reducible exact rfl)) | (apply goSplit; (· (simp; exact rfl)); (· with_reducible exact rfl)) | (apply goIfQ; (· (simp; exact rfl)); (· exact rfl)) | (apply goSplitQ; (· (simp; exact rfl)); (· exact rfl)) | (apply goBlkX; (· rfl)) | intro _)
      refine goEnd hw hP.out (by simp) (by simp [rs174]; exact rfl) rfl ?_
      simp [h0]
  · cases hv
@[simp] theorem F174_at (t a : AV) (H : Hp) : F174 [t, a] H = (tens H t).bind fun p => (ints H a).map fun l => .tup [.int .i64 (atT p l), .bool (!decide (plT p l < 0))] := rfl
def F162 (args : List AV) (H : Hp) : Option AV := match args with
  | [t, a] => (tens H t).bind fun p => (ints H a).map fun l => .int .i64 (atT p l)
  | _ => none
theorem snd162 : Sound Try.prog 162 (FSem.pure F162).run := by
  refine sound_of hT (EOK_cons snd174 (EOK_nil _)) mixed A162 Try.func162 hb162 (by kernel_rfl) (by kernel_rfl) (by kernel_rfl) (by kernel_rfl) sh162 2 (by kernel_rfl) rs162 hr162 ?_
  intro args H r H' hw h
  obtain ⟨rfl, hv⟩ := pureAt h
  clear h
  unfold F162 at hv
  split at hv
  · rename_i t a
    obtain ⟨⟨s, d⟩, ht, hv⟩ := Option.bind_eq_some_iff.1 hv
    obtain ⟨l, hl, hv⟩ := Option.map_eq_some_iff.1 hv
    cases hv
    obtain ⟨x, y, rfl, hs, hd⟩ := tens_some ht
    have hbx := abox_agg H' (ints_one' hs) (ints_one' hd)
    have hat := new_at H' [x, y]
    have l3 := ld40 hat
    have hP : Pre H' (H'.new [x, y]) := Pre.new (Pre.refl _) _
    have ht1 := tens_ext hP ht
    have hl1 := ints_ext hP hl
    refine ⟨rfl, go ?_⟩
    unfold c162
    simp only [argSl]
    generalize H'.new [x, y] = H1 at *
    generalize H'.bs.length = b at l3 hbx
    generalize H'.c = ver at l3 hbx
    clear hs hd hat ht hl
    replace hP := Hide.mk hP
    repeat' (first | apply goSeq | apply goReg | apply goSeqN | apply goSeqR | apply goSkip | apply goRet | apply goNil | apply goBlock | apply goExit | apply goBlkN | apply goBlkR | apply goBlkE | apply goSeqE | apply goLoopR | apply goLoopE | (apply goOp; (· (simp [*]; try exact rfl)); (· exact rfl)) | (apply goOp0; (· (simp [*]; try exact rfl)); (· exact rfl)) | (apply goYes; (· (simp [*]; done)); (· (simp [*]; try exact rfl)); (· exact rfl)) | (apply goNo; (· (simp [*]; done))) | (apply goNoU; (· (simp; exact rfl))) | (apply goIfT; (· (simp [*]; done))) | (apply goIfF; (· (simp [*]; done))) | (apply goIf; (· (simp; exact rfl)); (· with_reducible exact rfl)) | (apply goSplit; (· (simp; exact rfl)); (· with_reducible exact rfl)) | (apply goIfQ; (· (simp; exact rfl)); (· exact rfl)) | (apply goSplitQ; (· (simp; exact rfl)); (· exact rfl)) | (apply goBlkX; (· rfl)) | intro _)
    exact goEnd hw hP.out (by simp) (by simp [rs162]; exact rfl) rfl rfl
  · cases hv
@[simp] theorem F162_at (t a : AV) (H : Hp) : F162 [t, a] H = (tens H t).bind fun p => (ints H a).map fun l => .int .i64 (atT p l) := rfl
/- Walks: what is called for each place of a tensor. -/
theorem aload_ext {t : Nat} {a v : AV} {H G : Hp} (hp : Pre H G) (h : aload T t a H = some v) : aload T t a G = some v := by
  unfold aload at h ⊢
  split at h
  · rename_i i b ver off hi _
    split at h
    · rename_i k hk
      simp only [hp.at hk]
      exact h
    · cases h
  · cases h
theorem aload_put {t b ver o b' : Nat} {k : Blk} {H : Hp} (h : b ≠ b') : aload T t (.ptr b ver o) (H.put b' k) = aload T t (.ptr b ver o) H := by
  unfold aload
  cases T t with
  | none => rfl
  | some i => simp only [at_put h]
theorem aload_ne {t b ver o b' ver' : Nat} {v : AV} {k : Blk} {H G : Hp} (hw : Wf H) (hp : Pre H G) (hv : H.c ≤ ver') (hk : G.at b' ver' = some k) (h : aload T t (.ptr b ver o) H = some v) : b ≠ b' := by
  unfold aload at h
  split at h
  · rename_i i b1 ver1 off1 hi he
    cases he
    split at h
    · rename_i k1 hk1
      exact Hp.at_ne (hp.at hk1) hk (by have := at_lt hw hk1; omega)
    · cases h
  · cases h
theorem off_ne {b' ver' : Nat} {v : AV} {l : List Int} {k : Blk} {H G : Hp} (hw : Wf H) (hp : Pre H G) (hv : H.c ≤ ver') (hk : G.at b' ver' = some k) (h : ints H v = some l) : off v b' = true := by
  unfold ints at h
  split at h
  · rfl
  · rfl
  · split at h
    · split at h
      · rename_i k1 hk1
        have := Hp.at_ne (hp.at hk1) hk (by have := at_lt hw hk1; omega)
        simpa [off] using this
      · cases h
    · cases h
  · cases h
/-- Places moved. -/
def addL : List Int → List Int → List Int
  | a :: l, b :: m => w (a + b) :: addL l m
  | l, _ => l
theorem addL_len : ∀ (l m : List Int), (addL l m).length = l.length := by
  intro l
  induction l with
  | nil => intro m; cases m <;> rfl
  | cons a l ih => intro m; cases m with
    | nil => rfl
    | cons b m => simp [addL, ih]
def F139 (args : List AV) (H : Hp) : Option AV := match args with
  | [_, .ptr b ver 0] => (match aload T 2 (.ptr b ver 0) H with | some (.int .i64 n) => some (.int .i64 n) | _ => none)
  | _ => none
theorem snd139 : Sound Try.prog 139 (FSem.pure F139).run := by
  refine sound_of hT (EOK_nil _) mixed A139 Try.func139 hb139 (by kernel_rfl) (by kernel_rfl) (by kernel_rfl) (by kernel_rfl) sh139 2 (by kernel_rfl) rs139 hr139 ?_
  intro args H r H' hw h
  obtain ⟨rfl, hv⟩ := pureAt h
  clear h
  unfold F139 at hv
  split at hv
  · split at hv
    · cases hv
      rename_i hl
      refine ⟨rfl, go ?_⟩
      unfold c139
      simp only [argSl]
      repeat' (first | apply goSeq | apply goReg | apply goSeqN | apply goSeqR | apply goSkip | apply goRet | apply goNil | apply goBlock | apply goExit | apply goBlkN | apply goBlkR | apply goBlkE | apply goSeqE | apply goLoopR | apply goLoopE | (apply goOp; (· (simp [*]; try exact rfl)); (· exact rfl)) | (apply goOp0; (· (simp [*]; try exact rfl)); (· exact rfl)) | (apply goYes; (· (simp [*]; done)); (· (simp [*]; try exact rfl)); (· exact rfl)) | (apply goNo; (· (simp [*]; done))) | (apply goNoU; (· (simp; exact rfl))) | (apply goIfT; (· (simp [*]; done))) | (apply goIfF; (· (simp [*]; done))) | (apply goIf; (· (simp; exact rfl)); (· with_reducible exact rfl)) | (apply goSplit; (· (simp; exact rfl)); (· with_reducible exact rfl)) | (apply goIfQ; (· (simp; exact rfl)); (· exact rfl)) | (apply goSplitQ; (· (simp; exact rfl)); (· exact rfl)) | (apply goBlkX; (· rfl)) | intro _)
      exact goEnd hw (Pre.refl _) (by simp) (by simp [rs139]; exact rfl) rfl rfl
    · cases hv
  · cases hv
/-- The place is an own list, the rest lies elsewhere. -/
structure P161 (H : Hp) (pb pv n b1 v1 b2 v2 : Nat) (at' fr : List Int) (p : List Int × List Int) (fv x y : AV) : Prop where
  blk : H.at pb pv = some ⟨pv, at'.map (.int .i64), true, true⟩
  len : at'.length = n
  lb : n ≤ 1099511627776
  fl : aload T 22 (.ptr b1 v1 0) H = some fv
  fb : b1 ≠ pb
  fi : ints H fv = some fr
  fo : off fv pb = true
  tl : aload T 40 (.ptr b2 v2 0) H = some (.agg [x, y])
  tb : b2 ≠ pb
  tx : ints H x = some p.1
  txo : off x pb = true
  ty : ints H y = some p.2
  tyo : off y pb = true
  le : fr.length ≤ n
theorem map_int_inj {l m : List Int} (h : l.map (AV.int .i64) = m.map (.int .i64)) : l = m := by
  have := congrArg toInts h
  rw [toInts_map, toInts_map] at this
  exact Option.some.inj this
theorem P161.uniq {H : Hp} {pb pv n b1 v1 b2 v2 : Nat} {at1 fr : List Int} {p : List Int × List Int} {fv x y : AV} {at2 fr2 : List Int} {p2 : List Int × List Int} {fv2 x2 y2 : AV} (h : P161 H pb pv n b1 v1 b2 v2 at1 fr p fv x y) (k : P161 H pb pv n b1 v1 b2 v2 at2 fr2 p2 fv2 x2 y2) : at1 = at2 ∧ fr = fr2 ∧ p = p2 := by
  have e1 := h.blk
  rw [k.blk] at e1
  have e2 := h.fl
  rw [k.fl] at e2
  cases e2
  have e3 := h.fi
  rw [k.fi] at e3
  have e4 := h.tl
  rw [k.tl] at e4
  cases e4
  have e5 := h.tx
  rw [k.tx] at e5
  have e6 := h.ty
  rw [k.ty] at e6
  simp only [Option.some.injEq, Blk.mk.injEq, true_and, and_true] at e1
  refine ⟨(map_int_inj e1).symm, (Option.some.inj e3).symm, ?_⟩
  have a1 := Option.some.inj e5
  have a2 := Option.some.inj e6
  exact (Prod.ext a1 a2).symm
def put161 (H : Hp) (pb pv : Nat) (l : List Int) : Hp := H.put pb ⟨pv, l.map (.int .i64), true, true⟩
open Classical in
noncomputable def F161 (args : List AV) (H : Hp) : Option (AV × Hp) := match args with
  | [.sl pb pv 0 n 1 true, .ptr b1 v1 0, .ptr b2 v2 0] =>
    if h : ∃ q : (List Int × List Int × (List Int × List Int)) × (AV × AV × AV), P161 H pb pv n b1 v1 b2 v2 q.1.1 q.1.2.1 q.1.2.2 q.2.1 q.2.2.1 q.2.2.2 then
      some (.int .i64 (atT h.choose.1.2.2 (addL h.choose.1.1 h.choose.1.2.1)), put161 H pb pv (addL h.choose.1.1 h.choose.1.2.1)) else none
  | _ => none
theorem F161_at {H : Hp} {pb pv n b1 v1 b2 v2 : Nat} {at1 fr : List Int} {p : List Int × List Int} {fv x y : AV} (h : P161 H pb pv n b1 v1 b2 v2 at1 fr p fv x y) :
    F161 [.sl pb pv 0 n 1 true, .ptr b1 v1 0, .ptr b2 v2 0] H = some (.int .i64 (atT p (addL at1 fr)), put161 H pb pv (addL at1 fr)) := by
  have hex : ∃ q : (List Int × List Int × (List Int × List Int)) × (AV × AV × AV), P161 H pb pv n b1 v1 b2 v2 q.1.1 q.1.2.1 q.1.2.2 q.2.1 q.2.2.1 q.2.2.2 := ⟨((at1, fr, p), (fv, x, y)), h⟩
  have := P161.uniq hex.choose_spec h
  simp only [F161]
  rw [dif_pos hex, this.1, this.2.1, this.2.2]
theorem addL_take : ∀ (l m : List Int) (i : Nat), i < m.length → m.length ≤ l.length → (addL (l.take i) (m.take i) ++ l.drop i).set i (w (nth l i + nth m i)) = addL (l.take (i + 1)) (m.take (i + 1)) ++ l.drop (i + 1) := by
  intro l
  induction l with
  | nil => intro m i h1 h2; simp at h2; subst h2; simp at h1
  | cons a l ih =>
    intro m i h1 h2
    cases m with
    | nil => simp at h1
    | cons b m =>
      cases i with
      | zero => simp [addL, nth]
      | succ i =>
        have := ih m i (by simpa using h1) (by simpa using h2)
        simpa [addL, nth] using this
theorem nth_addL (l m : List Int) (i : Nat) (hi : i < l.length) : nth (addL (l.take i) (m.take i) ++ l.drop i) i = nth l i := by
  have : (addL (l.take i) (m.take i)).length = i := by rw [addL_len]; simp; omega
  simp [nth, List.getD_eq_getElem?_getD, List.getElem?_append_right, this]
set_option maxHeartbeats 1000000 in
theorem snd161 : Sound Try.prog 161 (FSem.eff F161).run := by
  refine sound_of hT (EOK_cons snd162 (EOK_nil _)) mixed A161 Try.func161 hb161 (by kernel_rfl) (by kernel_rfl) (by kernel_rfl) (by kernel_rfl) sh161 3 (by kernel_rfl) rs161 hr161 ?_
  intro args H r H' hw h
  have hv : F161 args H = some (r, H') := h
  clear h
  have hargs : ∃ pb pv n b1 v1 b2 v2 at1 fr p fv x y, args = [.sl pb pv 0 n 1 true, .ptr b1 v1 0, .ptr b2 v2 0] ∧ P161 H pb pv n b1 v1 b2 v2 at1 fr p fv x y := by
    unfold F161 at hv
    split at hv
    · split at hv
      · rename_i hex
        exact ⟨_, _, _, _, _, _, _, _, _, _, _, _, _, rfl, hex.choose_spec⟩
      · cases hv
    · cases hv
  obtain ⟨pb, pv, n, b1, v1, b2, v2, at1, fr, p, fv, x, y, rfl, hP⟩ := hargs
  rw [F161_at hP] at hv
  obtain ⟨rfl, rfl⟩ := Prod.mk.inj (Option.some.inj hv)
  clear hv
  have hl1 := hP.fl
  have hfl := alenS_ints hP.fi
  have hlb := hP.lb
  have hle := hP.le
  have hnl := hP.len
  simp only [← alen22] at hfl
  have hput : ∀ L : List Int, (put161 H pb pv L).at pb pv = some ⟨pv, L.map (.int .i64), true, true⟩ := fun L => at_put_same hP.blk rfl
  have hself : put161 H pb pv at1 = H := put_self hP.blk
  refine ⟨rfl, go ?_⟩
  unfold c161
  simp only [argSl]
  replace hP := Hide.mk hP
  repeat' (first | apply goSeq | apply goReg | apply goSeqN | apply goSeqR | apply goSkip | apply goRet | apply goNil | apply goBlock | apply goExit | apply goBlkN | apply goBlkR | apply goBlkE | apply goSeqE | apply goLoopR | apply goLoopE | (apply goOp; (· (simp [*]; try exact rfl)); (· exact rfl)) | (apply goOp0; (· (simp [*]; try exact rfl)); (· exact rfl)) | (apply goYes; (· (simp [*]; done)); (· (simp [*]; try exact rfl)); (· exact rfl)) | (apply goNo; (· (simp [*]; done))) | (apply goNoU; (· (simp; exact rfl))) | (apply goIfT; (· (simp [*]; done))) | (apply goIfF; (· (simp [*]; done))) | (apply goIf; (· (simp; exact rfl)); (· with_reducible exact rfl)) | (apply goSplit; (· (simp; exact rfl)); (· with_reducible exact rfl)) | (apply goIfQ; (· (simp; exact rfl)); (· exact rfl)) | (apply goSplitQ; (· (simp; exact rfl)); (· exact rfl)) | (apply goBlkX; (· rfl)) | intro _)
  refine goLoop (fun m s1 G => ∃ i : Nat, m = fr.length - i ∧ i ≤ fr.length ∧ G = put161 H pb pv (addL (at1.take i) (fr.take i) ++ at1.drop i) ∧ get s1 0 = .sl pb pv 0 n 1 true ∧ get s1 2 = .ptr b2 v2 0 ∧ get s1 7 = fv ∧ get s1 8 = .int .i64 fr.length ∧ get s1 9 = .int .i64 i) fr.length ?_ ?_
  · exact ⟨0, rfl, Nat.zero_le _, by simpa [addL] using hself.symm, rfl, rfl, rfl, rfl, rfl⟩
  rintro m s1 G ⟨i, hmm, hi, rfl, g1, g2, g3, g4, g5⟩
  simp only [cut_cons, cut_nil, g1, g2, g3, g4, g5]
  clear g1 g2 g3 g4 g5 hl1
  have hi0 : (0 : Int) ≤ i := Int.natCast_nonneg i
  have hw1 : w ((i : Int) + 1) = ((i + 1 : Nat) : Int) := w_id (by omega)
  have hLl : (addL (at1.take i) (fr.take i) ++ at1.drop i).length = n := by simp [addL_len]; omega
  have hblk := hput (addL (at1.take i) (fr.take i) ++ at1.drop i)
  have hfi : ints (put161 H pb pv (addL (at1.take i) (fr.take i) ++ at1.drop i)) fv = some fr := by
    unfold put161; rw [ints_put hP.out.fo]; exact hP.out.fi
  have hti : ints (put161 H pb pv (addL (at1.take i) (fr.take i) ++ at1.drop i)) (.sl pb pv 0 n 1 true) = some (addL (at1.take i) (fr.take i) ++ at1.drop i) := by
    have := ints_of_ownF (H0 := ⟨[], 0⟩) (l := addL (at1.take i) (fr.take i) ++ at1.drop i) ⟨pb, pv, rfl, Nat.zero_le _, hblk⟩ (by omega)
    rwa [hLl] at this
  have hixf := aidxS_ints hfi .i64
  have hldf := aload_nth T3 rfl hfi
  have hixt := aidxS_ints hti .i64
  have hldt := aload_nth T3 rfl hti
  rw [hLl] at hixt hldt
  simp only [← aidx22] at hixf hixt
  have hx : ints (put161 H pb pv (addL (at1.take i) (fr.take i) ++ at1.drop i)) x = some p.1 := by
    unfold put161; rw [ints_put hP.out.txo]; exact hP.out.tx
  have hy : ints (put161 H pb pv (addL (at1.take i) (fr.take i) ++ at1.drop i)) y = some p.2 := by
    unfold put161; rw [ints_put hP.out.tyo]; exact hP.out.ty
  have htt := tens_of hx hy
  have hlt : aload T 40 (.ptr b2 v2 0) (put161 H pb pv (addL (at1.take i) (fr.take i) ++ at1.drop i)) = some (.agg [x, y]) := by
    unfold put161; rw [aload_put hP.out.tb]; exact hP.out.tl
  by_cases hif : i < fr.length
  · have hin : (i : Int) < n := by omega
    have hif' : (i : Int) < fr.length := by omega
    have hst : astore T 3 (pAt (.sl pb pv 0 n 1 true) i) (.int .i64 (w (nth (addL (at1.take i) (fr.take i) ++ at1.drop i) i + nth fr i))) (put161 H pb pv (addL (at1.take i) (fr.take i) ++ at1.drop i)) = some (put161 H pb pv (addL (at1.take (i + 1)) (fr.take (i + 1)) ++ at1.drop (i + 1))) := by
      simp only [astore, T3, pAt, hblk]
      rw [if_pos (by simp [AV.cells, AV.one, addL_len]; omega)]
      have e1 := setAll_one (addL (at1.take i) (fr.take i) ++ at1.drop i) i (w (nth at1 i + nth fr i))
      rw [addL_take at1 fr i hif (by omega)] at e1
      rw [nth_addL at1 fr i (by omega)]
      simp only [Int.toNat_natCast, Nat.zero_add, Nat.mul_one, AV.cells, e1]
      unfold put161
      rw [put_put]
    generalize hL1 : addL (at1.take i) (fr.take i) ++ at1.drop i = L1 at *
    generalize hL2 : addL (at1.take (i + 1)) (fr.take (i + 1)) ++ at1.drop (i + 1) = L2 at *
    generalize hG1 : put161 H pb pv L1 = G1 at *
    generalize hG2 : put161 H pb pv L2 = G2 at *
    clear hti hx hy htt hlt hblk hput hself
    repeat' (first | apply goSeq | apply goReg | apply goSeqN | apply goSeqR | apply goSkip | apply goRet | apply goNil | apply goBlock | apply goExit | apply goBlkN | apply goBlkR | apply goBlkE | apply goSeqE | apply goLoopR | apply goLoopE | (apply goOp; (· (simp [*]; try exact rfl)); (· exact rfl)) | (apply goOp0; (· (simp [*]; try exact rfl)); (· exact rfl)) | (apply goYes; (· (simp [*]; done)); (· (simp [*]; try exact rfl)); (· exact rfl)) | (apply goNo; (· (simp [*]; done))) | (apply goNoU; (· (simp; exact rfl))) | (apply goIfT; (· (simp [*]; done))) | (apply goIfF; (· (simp [*]; done))) | (apply goIf; (· (simp; exact rfl)); (· with_reducible exact rfl)) | (apply goSplit; (· (simp; exact rfl)); (· with_reducible exact rfl)) | (apply goIfQ; (· (simp; exact rfl)); (· exact rfl)) | (apply goSplitQ; (· (simp; exact rfl)); (· exact rfl)) | (apply goBlkX; (· rfl)) | intro _)
    exact goLoopN (fr.length - (i + 1)) (by omega) ⟨i + 1, rfl, by omega, by rw [hL2]; exact hG2.symm, rfl, rfl, rfl, rfl, rfl⟩
  · have hLe : addL (at1.take i) (fr.take i) ++ at1.drop i = addL at1 fr := by
      have hif' : i = fr.length := by omega
      subst hif'
      have : ∀ (l m : List Int), m.length ≤ l.length → addL (l.take m.length) (m.take m.length) ++ l.drop m.length = addL l m := by
        intro l
        induction l with
        | nil => intro m h; cases m <;> simp [addL]
        | cons a l ih =>
          intro m h
          cases m with
          | nil => simp [addL]
          | cons b m => simpa [addL] using ih m (by simpa using h)
      exact this at1 fr (by omega)
    rw [hLe] at hti htt hlt ⊢
    have hif' : ¬ (i : Int) < fr.length := by omega
    obtain ⟨gg1, gg2⟩ := Hp.at_some hP.out.blk
    clear hput hself hblk hx hy hixf hldf hixt hldt
    generalize hG1 : put161 H pb pv (addL at1 fr) = G1 at *
    repeat' (first | apply goSeq | apply goReg | apply goSeqN | apply goSeqR | apply goSkip | apply goRet | apply goNil | apply goBlock | apply goExit | apply goBlkN | apply goBlkR | apply goBlkE | apply goSeqE | apply goLoopR | apply goLoopE | (apply goOp; (· (simp [*]; try exact rfl)); (· exact rfl)) | (apply goOp0; (· (simp [*]; try exact rfl)); (· exact rfl)) | (apply goYes; (· (simp [*]; done)); (· (simp [*]; try exact rfl)); (· exact rfl)) | (apply goNo; (· (simp [*]; done))) | (apply goNoU; (· (simp; exact rfl))) | (apply goIfT; (· (simp [*]; done))) | (apply goIfF; (· (simp [*]; done))) | (apply goIf; (· (simp; exact rfl)); (· with_reducible exact rfl)) | (apply goSplit; (· (simp; exact rfl)); (· with_reducible exact rfl)) | (apply goIfQ; (· (simp; exact rfl)); (· exact rfl)) | (apply goSplitQ; (· (simp; exact rfl)); (· exact rfl)) | (apply goBlkX; (· rfl)) | intro _)
    refine ⟨⟨.inr rfl, [.int .i64 (atT p (addL at1 fr))], [], by simp [rs161], ?_⟩⟩
    rw [← hG1]
    refine Can.put hw gg1 rfl ?_ (fun _ _ h => h) rfl
    exact flats_rel (all_flat _)
/- Walks: tensors, made number by number. -/
theorem prodW_nonneg : ∀ (l : List Int) (n : Int) (k : Nat), k + l.length ≤ 4 → (∀ j : Nat, j < l.length → 0 ≤ nth l j ∧ nth l j ≤ 32) → 0 ≤ n → n ≤ ((32 ^ k : Nat) : Int) → 0 ≤ prodW n l := by
  intro l
  induction l with
  | nil => intro n k _ _ h _; exact h
  | cons x l ih =>
    intro n k hk hr h0 hP
    simp only [prodW]
    have hx := hr 0 (by simp)
    have hx' : 0 ≤ x ∧ x ≤ 32 := by simpa [nth] using hx
    have hk1 := pow32 k (by simp at hk; omega)
    have hk2 := pow32 (k + 1) (by simp at hk; omega)
    have hpk : ((32 ^ (k + 1) : Nat) : Int) = ((32 ^ k : Nat) : Int) * 32 := by rw [Nat.pow_succ]; simp
    have hPx := mul_rng (a := n) (b := x) (A := ((32 ^ k : Nat) : Int)) (B := 32) ⟨h0, hP⟩ hx'
    rw [w_id (x := n * x) (by omega)]
    exact ih _ (k + 1) (by simp at hk; omega) (fun j hj => by simpa [nth] using hr (j + 1) (by simpa using hj)) hPx.1 (by omega)
theorem sizeOf_nonneg (l : List Int) : 0 ≤ sizeOf l := by
  unfold sizeOf
  split
  · rename_i h
    obtain ⟨h4, hr⟩ := shapeOK_rng h
    exact prodW_nonneg l 1 0 (by omega) hr (by omega) (by simp)
  · omega
/-- What is called for each place comes to fn, and touches nothing but the place. -/
def CB (E : Env) (f : AV) (H : Hp) (n : Nat) (fn : List Int → Int) : Prop :=
  ∀ G pb pv at1, Ext H G → H.c ≤ pv → at1.length = n → G.at pb pv = some ⟨pv, at1.map (AV.int .i64), true, true⟩ →
    ∃ G', acall E f [.sl pb pv 0 n 1 true] G = some (.int .i64 (fn at1), G') ∧ Ext H G' ∧ G'.c = G.c ∧ ∀ b' ver', (b', ver') ≠ (pb, pv) → Keeps G G' b' ver'
/-- What is called, as a function of the place. -/
def cbF (H : Hp) (f : AV) (n : Nat) : Option (List Int → Int) := match f with
  | .func 139 [.ptr b ver 0] => (match aload T 2 (.ptr b ver 0) H with | some (.int .i64 m) => some (fun _ => m) | _ => none)
  | .func 161 [.ptr b1 v1 0, .ptr b2 v2 0] => (aload T 22 (.ptr b1 v1 0) H).bind fun fv => (ints H fv).bind fun fr => (aload T 40 (.ptr b2 v2 0) H).bind fun tv => (tens H tv).bind fun p => if fr.length ≤ n then some (fun at1 => atT p (addL at1 fr)) else none
  | _ => none
theorem cb_ok {E : Env} (h1 : E 139 = some (.pure F139)) (h2 : E 161 = some (.eff F161)) {H : Hp} (hw : Wf H) {f : AV} {n : Nat} (hn : n ≤ 1099511627776) {fn : List Int → Int} (h : cbF H f n = some fn) : CB E f H n fn := by
  intro G pb pv at1 hx hv hl hk
  unfold cbF at h
  split at h
  · rename_i b ver
    split at h
    · rename_i m hm
      cases h
      refine ⟨G, ?_, hx, rfl, fun _ _ _ _ h => h⟩
      simp only [acall_func, h1, Option.bind_some, run_pure, List.cons_append, List.nil_append, F139, aload_ext hx.pre hm, Option.map_some]
    · cases h
  · rename_i b1 v1 b2 v2
    obtain ⟨fv, hfv, h⟩ := Option.bind_eq_some_iff.1 h
    obtain ⟨fr, hfr, h⟩ := Option.bind_eq_some_iff.1 h
    obtain ⟨tv, htv, h⟩ := Option.bind_eq_some_iff.1 h
    obtain ⟨p, hp, h⟩ := Option.bind_eq_some_iff.1 h
    split at h
    rotate_left
    · cases h
    rename_i hle
    cases h
    obtain ⟨x, y, rfl, hxs, hys⟩ := tens_some hp
    have hP : P161 G pb pv n b1 v1 b2 v2 at1 fr p fv x y :=
      ⟨hk, hl, hn, aload_ext hx.pre hfv, aload_ne hw hx.pre hv hk hfv, ints_ext hx.pre hfr, off_ne hw hx.pre hv hk hfr, aload_ext hx.pre htv, aload_ne hw hx.pre hv hk htv, ints_ext hx.pre hxs, off_ne hw hx.pre hv hk hxs, ints_ext hx.pre hys, off_ne hw hx.pre hv hk hys, hle⟩
    refine ⟨put161 G pb pv (addL at1 fr), ?_, put_ext hw hx hv hk, rfl, fun b' ver' hne => Keeps.put2 hk hne⟩
    simp only [acall_func, h2, Option.bind_some, run_eff, List.cons_append, List.nil_append, F161_at hP]
  · cases h
/-- A copy of a list. -/
def clT (s : AV) (l : List Int) : Tr := match s with | .nilS => trS [] | _ => trC l
theorem clT_is {H : Hp} {s : AV} {l : List Int} (h : ints H s = some l) : isL (clT s l) l := by
  unfold clT
  split
  · cases h; exact .inl rfl
  · exact .inr (.inr rfl)
def madeL (fn : List Int → Int) (s : List Int) : List Int := (List.range (sizeOf s).toNat).map fun (i : Nat) => fn (meshAt s (i : Int))
theorem madeL_len (fn : List Int → Int) (s : List Int) : (madeL fn s).length = (sizeOf s).toNat := by simp [madeL]
def notMt (s : AV) : Bool := match s with | .mtS => false | _ => true
/-- What Clone comes to. -/
theorem F103_at {H : Hp} {s : AV} {l : List Int} (h : ints H s = some l) (hm : notMt s = true) (hl : l.length < 1099511627776) : F103 [s] H = some (mk (clT s l) H) := by
  unfold ints at h
  split at h
  · cases h; rfl
  · cases hm
  · rename_i b ver o n es f
    show (ints H (.sl b ver o n es f)).bind _ = _
    have : ints H (.sl b ver o n es f) = some l := h
    rw [this, Option.bind_some, if_pos hl]
    rfl
  · cases h
def F138 (args : List AV) (H : Hp) : Option (AV × Hp) := match args with
  | [s, f] => (ints H s).bind fun l => (cbF H f l.length).bind fun fn => if notMt s = true ∧ l.length < 1099511627776 then some (mk (.agg [clT s l, trF (madeL fn l)]) H) else none
  | _ => none
set_option maxHeartbeats 2000000 in
theorem snd138 : Sound Try.prog 138 (FSem.eff F138).run := by
  refine sound_of hT (EOK_cons snd95 (EOK_cons snd103 (EOK_cons snd136 (EOK_cons snd139 (EOK_cons snd161 (EOK_nil _)))))) mixed A138 Try.func138 hb138 (by kernel_rfl) (by kernel_rfl) (by kernel_rfl) (by kernel_rfl) sh138 2 (by kernel_rfl) rs138 hr138 ?_
  intro args H r H' hw h
  have hv : F138 args H = some (r, H') := h
  clear h
  unfold F138 at hv
  split at hv
  · rename_i sv f
    obtain ⟨s, hs, hv⟩ := Option.bind_eq_some_iff.1 hv
    obtain ⟨fn, hfn, hv⟩ := Option.bind_eq_some_iff.1 hv
    split at hv
    rotate_left
    · cases hv
    rename_i hmax
    obtain ⟨hmt, hmax⟩ := hmax
    replace hv := Option.some.inj hv
    have hle := sizeOf_le s
    have hge := sizeOf_nonneg s
    have hcb := cb_ok (E := envL [(95, FSem.eff F95), (103, FSem.eff F103), (136, FSem.pure F136), (139, FSem.pure F139), (161, FSem.eff F161)]) rfl rfl hw (by omega) hfn
    generalize hn : (sizeOf s).toNat = n at *
    have hmi : ∀ i : Nat, i < n → nth (madeL fn s) i = fn (meshAt s i) := by
      intro i hi
      simp [madeL, nth, hn, hi]
    have hml := madeL_len fn s
    rw [hn] at hml
    generalize madeL fn s = D at *
    have hfa : ∀ G, acall (envL [(95, FSem.eff F95), (103, FSem.eff F103), (136, FSem.pure F136), (139, FSem.pure F139), (161, FSem.eff F161)]) f G = acall (envL [(95, FSem.eff F95), (103, FSem.eff F103), (136, FSem.pure F136), (139, FSem.pure F139), (161, FSem.eff F161)]) f G := fun _ => rfl
    clear hfn hfa
    -- the result's cell
    have x0 : Ext H (H.new [.nilS, .nilS]) := (Ext.refl hw).new _
    have c0 : OwnC H (H.new [.nilS, .nilS]) H.bs.length H.c [.nilS, .nilS] := ⟨Nat.le_refl _, new_at _ _⟩
    have hvlt : H.c < (H.new [AV.nilS, AV.nilS]).c := Nat.lt_succ_self _
    generalize hH0 : H.new [.nilS, .nilS] = H0 at *
    generalize hp0 : H.bs.length = p0 at *
    generalize hq0 : H.c = q0 at *
    have hs0 := ints_ext x0.pre hs
    -- the shape
    have e103 := F103_at hs0 hmt hmax
    obtain ⟨b1, r1, f1, x1⟩ := mk_rep (clT sv s) (c0 := 0) x0.wf (Nat.zero_le _) ((clT_is hs0).ok 0)
    have hshi := (clT_is hs0).ints (by omega) r1
    generalize hr1 : mk (clT sv s) H0 = tt at *
    obtain ⟨shv, H1⟩ := tt
    simp only at r1 f1 x1 hshi
    have hone := ints_one' hshi
    have hs1 := ints_ext x1.pre hs0
    -- the numbers
    obtain ⟨dav, H2, e2, o2, x2⟩ := make_own (Ext.refl x1.wf) n (by omega)
    obtain ⟨b2, r2, f2⟩ := o2.repF x2.wf
    have hone2 := ownF_one o2
    have hbd := bld40_one hone hone2
    -- the tensor
    have c3 : OwnC H2 (H2.new [.nilS, .nilS]) H2.bs.length H2.c [.nilS, .nilS] := ⟨Nat.le_refl _, new_at _ _⟩
    have x3 : Ext H2 (H2.new [.nilS, .nilS]) := (Ext.refl x2.wf).new _
    have st := st40 (x := shv) (y := dav) (new_at H2 [.nilS, .nilS]) hone hone2
    obtain ⟨c4, x4⟩ := c3.wr x2.wf x3 [shv, dav]
    have hq3lt : H2.c < ((H2.new [.nilS, .nilS]).put H2.bs.length ⟨H2.c, [shv, dav], true, true⟩).c := Nat.lt_succ_self _
    generalize hH3 : H2.new [.nilS, .nilS] = H3 at *
    generalize hp3 : H2.bs.length = p3 at *
    generalize hq3 : H2.c = q3 at *
    generalize hH4 : H3.put p3 ⟨q3, [shv, dav], true, true⟩ = H4 at *
    have l1 := ld38 c4.at' 1
    simp only [List.getElem?_cons_zero, List.getElem?_cons_succ] at l1
    have c0' := ((c0.ext x1.pre).ext x2.pre).ext x4.pre
    have rs4 := (Rep.ext x2.pre r1).ext x4.pre
    have rd4 := Rep.ext x4.pre r2
    have x04 : Ext H H4 := ((x0.trans x1).trans x2).trans x4
    have hdl : alen T 38 dav = some (.int .i64 n) := by
      rw [alen38, alenS_ints (ints_of_ownF o2 (by simp; omega))]; simp
    have h01 : q0 ≤ H0.c := Nat.le_of_lt hvlt
    have h11 : H0.c ≤ H1.c := x1.c
    have h12 : H1.c ≤ q3 := by have := x2.c; omega
    have hszn : sizeOf s = n := by omega
    clear hle hge c0 x0 x1 x2 c3 x3 r1 r2 hshi o2
    replace hv := Hide.mk hv
    replace hs := Hide.mk hs
    replace hcb := Hide.mk hcb
    replace hmi := Hide.mk hmi
    replace f1 := Hide.mk f1
    replace f2 := Hide.mk f2
    replace c4 := Hide.mk c4
    replace c0' := Hide.mk c0'
    replace rs4 := Hide.mk rs4
    replace rd4 := Hide.mk rd4
    replace x04 := Hide.mk x04
    replace hml := Hide.mk hml
    have hx4 := Hide.mk x4
    clear x4
    have em := amake38
    refine ⟨rfl, go ?_⟩
    unfold c138
    simp only [argSl]
    repeat' (first | apply goSeq | apply goReg | apply goSeqN | apply goSeqR | apply goSkip | apply goRet | apply goNil | apply goBlock | apply goExit | apply goBlkN | apply goBlkR | apply goBlkE | apply goSeqE | apply goLoopR | apply goLoopE | (apply goOp; (· (simp [*]; try exact rfl)); (· exact rfl)) | (apply goOp0; (· (simp [*]; try exact rfl)); (· exact rfl)) | (apply goYes; (· (simp [*]; done)); (· (simp [*]; try exact rfl)); (· exact rfl)) | (apply goNo; (· (simp [*]; done))) | (apply goNoU; (· (simp; exact rfl))) | (apply goIfT; (· (simp [*]; done))) | (apply goIfF; (· (simp [*]; done))) | (apply goIf; (· (simp; exact rfl)); (· with_reducible exact rfl)) | (apply goSplit; (· (simp; exact rfl)); (· with_reducible exact rfl)) | (apply goIfQ; (· (simp; exact rfl)); (· exact rfl)) | (apply goSplitQ; (· (simp; exact rfl)); (· exact rfl)) | (apply goBlkX; (· rfl)) | intro _)
    have hHc : H.c ≤ q0 := by omega
    have hH2c : H2.c ≤ q3 := by omega
    clear hH0 hp0 hq0 hs0 hr1 e103 hs1 e2 hbd hH3 hp3 hq3 hH4 st l1 hdl em
    refine goLoop (fun m s1 G => ∃ (i : Nat) (L : List Int), m = n - i ∧ i ≤ n ∧ L.length = n ∧ get s1 0 = sv ∧ get s1 1 = f ∧ get s1 4 = .ptr p0 q0 0 ∧ get s1 5 = .ptr p3 q3 0 ∧ get s1 15 = .int .i64 n ∧ get s1 16 = .int .i64 i ∧ Ext H G ∧ q3 < G.c ∧ OwnC H G p0 q0 [.nilS, .nilS] ∧ OwnC H2 G p3 q3 [shv, dav] ∧ Rep H0.c G (clT sv s) shv b1 ∧ Rep H1.c G (trF L) dav b2 ∧ ∀ j : Nat, j < i → nth L j = nth D j) n ?_ ?_
    · exact ⟨0, List.replicate n 0, rfl, Nat.zero_le _, by simp, rfl, rfl, rfl, rfl, rfl, rfl, x04.out, hq3lt, c0'.out, c4.out, rs4.out, rd4.out, by simp⟩
    clear c0' c4 rs4 rd4
    rintro m s1 G ⟨i, L, hmm, hi, hLn, g1, g2, g3, g4, g5, g6, hx, hqG, d0, d3, hr, hd, hL⟩
    simp only [cut_cons, cut_nil, g1, g2, g3, g4, g5, g6]
    clear g1 g2 g3 g4 g5 g6
    have hi0 : (0 : Int) ≤ i := Int.natCast_nonneg i
    have hw1 : w ((i : Int) + 1) = ((i + 1 : Nat) : Int) := w_id (by have := sizeOf_le s; omega)
    have l1 := ld38 d3.at' 1
    have l2 := ld40 d3.at'
    simp only [List.getElem?_cons_zero, List.getElem?_cons_succ] at l1
    replace hL := Hide.mk hL
    by_cases hin : i < n
    · have hsG := ints_ext hx.pre hs.out
      have e95 : F95 [sv, .int .i64 i] G = some (mkF G (meshAt s i)) := by
        simp only [F95, hsG, Option.map_some]
        rw [if_neg (by omega)]
      have hxm := mkF_ext hx.wf (meshAt s i)
      obtain ⟨G2, ef, x2, c2, k2⟩ := hcb.out (mkF G (meshAt s i)).2 G.bs.length G.c (meshAt s i) (hx.trans hxm) hx.c (meshAt_len s i) (new_at G _)
      have k1 : ∀ b' ver', ver' < G.c → Keeps G G2 b' ver' := fun b' ver' hlt => (Keeps.pre hxm.pre b' ver').trans (k2 b' ver' (fun e => by cases e; omega))
      have d31 := d3.ext hxm.pre
      have l1' := ld38 d31.at' 1
      have d32 := d3.keep (k1 p3 q3 hqG)
      have l1'' := ld38 d32.at' 1
      simp only [List.getElem?_cons_zero, List.getElem?_cons_succ] at l1' l1''
      have d02 := d0.keep (k1 p0 q0 (by omega))
      have hr2 := Rep.keep (clT sv s) (fun p hp => k1 p.1 p.2 (by have := (f1.out.2 p hp).2; omega)) hr
      have hd2 := Rep.keep (trF L) (fun p hp => k1 p.1 p.2 (by have := (f2.out.2 p hp).2; omega)) hd
      have hixd : aidx T 38 dav (.int .i64 i) = some (pAt dav i) := by
        have := aidxS_ints (isL.ints (.inr (.inl rfl)) (by have := sizeOf_le s; omega) hd) .i64 i
        rw [aidx38, this, if_pos (by omega)]
      have hml' := meshAt_len s i
      have hpl : (mkF G (meshAt s i)).1 = .sl G.bs.length G.c 0 s.length 1 true := by simp [mkF, hml']
      rw [← trF_B] at hd2
      obtain ⟨G3, e3, hd3, k3, x3, c3⟩ := rep_store (.inr rfl) hd2 i (by omega) (fn (meshAt s i))
      have hr3 := Rep.keep (clT sv s) (fun p hp => k3 p.1 p.2 (fun hm => by have := (f1.out.2 p hp).2; have := (f2.out.2 _ hm).1; omega)) hr2
      have d33 := d32.keep (k3 p3 q3 (fun hm => by have := (f2.out.2 _ hm).2; simp only at this; omega))
      have d03 := d02.keep (k3 p0 q0 (fun hm => by have := (f2.out.2 _ hm).1; simp only at this; omega))
      have x4 := x3 H hw x2 (by omega)
      have hc3 : q3 < G3.c := by
        have h1 : G3.c = G2.c := c3
        have h2 : G2.c = (mkF G (meshAt s i)).2.c := c2
        have h3 : G.c ≤ (mkF G (meshAt s i)).2.c := hxm.c
        omega
      have hin' : (i : Int) < n := by omega
      rw [← hpl] at ef
      generalize hmk : mkF G (meshAt s i) = gg at *
      obtain ⟨pl, G1⟩ := gg
      simp only at ef l1'
      generalize hval : fn (meshAt s i) = y at *
      clear hsG hmk hpl hxm x2 k2 k1 d31 d32 d02 hr2 hd2 k3 x3 c3 c2 hml' d3 d0 hr hd hx
      replace hr3 := Hide.mk hr3
      replace d33 := Hide.mk d33
      replace d03 := Hide.mk d03
      replace hd3 := Hide.mk hd3
      replace x4 := Hide.mk x4
      have hval' := Hide.mk hval
      clear hval
      repeat' (first | apply goSeq | apply goReg | apply goSeqN | apply goSeqR | apply goSkip | apply goRet | apply goNil | apply goBlock | apply goExit | apply goBlkN | apply goBlkR | apply goBlkE | apply goSeqE | apply goLoopR | apply goLoopE | (apply goOp; (· (simp [*]; try exact rfl)); (· exact rfl)) | (apply goOp0; (· (simp [*]; try exact rfl)); (· exact rfl)) | (apply goYes; (· (simp [*]; done)); (· (simp [*]; try exact rfl)); (· exact rfl)) | (apply goNo; (· (simp [*]; done))) | (apply goNoU; (· (simp; exact rfl))) | (apply goIfT; (· (simp [*]; done))) | (apply goIfF; (· (simp [*]; done))) | (apply goIf; (· (simp; exact rfl)); (· with_reducible exact rfl)) | (apply goSplit; (· (simp; exact rfl)); (· with_reducible exact rfl)) | (apply goIfQ; (· (simp; exact rfl)); (· exact rfl)) | (apply goSplitQ; (· (simp; exact rfl)); (· exact rfl)) | (apply goBlkX; (· rfl)) | intro _)
      apply goDrw
      iterate 9 (apply goTOp; (· (simp [*]; try exact rfl)); (· exact rfl))
      apply goTOp0; (· (simp [*]; try exact rfl)); (· exact rfl)
      refine goTNil (by simp [again, XG_none, l1, l1', l1'']) ?_
      repeat' (first | apply goSeq | apply goReg | apply goSeqN | apply goSeqR | apply goSkip | apply goRet | apply goNil | apply goBlock | apply goExit | apply goBlkN | apply goBlkR | apply goBlkE | apply goSeqE | apply goLoopR | apply goLoopE | (apply goOp; (· (simp [*]; try exact rfl)); (· exact rfl)) | (apply goOp0; (· (simp [*]; try exact rfl)); (· exact rfl)) | (apply goYes; (· (simp [*]; done)); (· (simp [*]; try exact rfl)); (· exact rfl)) | (apply goNo; (· (simp [*]; done))) | (apply goNoU; (· (simp; exact rfl))) | (apply goIfT; (· (simp [*]; done))) | (apply goIfF; (· (simp [*]; done))) | (apply goIf; (· (simp; exact rfl)); (· with_reducible exact rfl)) | (apply goSplit; (· (simp; exact rfl)); (· with_reducible exact rfl)) | (apply goIfQ; (· (simp; exact rfl)); (· exact rfl)) | (apply goSplitQ; (· (simp; exact rfl)); (· exact rfl)) | (apply goBlkX; (· rfl)) | intro _)
      refine goLoopN (n - (i + 1)) (by omega) ⟨i + 1, L.set i y, rfl, by omega, by simp [hLn], rfl, rfl, rfl, rfl, rfl, rfl, x4.out, hc3, d03.out, d33.out, hr3.out, by rw [← trF_B]; exact hd3.out, ?_⟩
      intro j hj
      by_cases hji : j = i
      · subst hji
        rw [hmi.out j hin, hval'.out]
        simp [nth, hLn, hin]
      · rw [← hL.out j (by omega)]
        simp only [nth, Int.toNat_natCast, List.getD_eq_getElem?_getD]
        rw [List.getElem?_set_ne (fun e => hji e.symm)]
    · have hin' : ¬ (i : Int) < n := by omega
      have d0' := d0.at'
      have st := st40 (x := shv) (y := dav) d0' hone hone2
      have hkp : ∀ b' ver', ver' ≠ q0 → Keeps G (G.put p0 ⟨q0, [shv, dav], true, true⟩) b' ver' := fun b' ver' h => Keeps.put d0' h
      have lr := ld40 (at_put_same (k' := ⟨q0, [shv, dav], true, true⟩) d0' rfl)
      have hp := put_ext (cs := [shv, dav]) hw hx hHc d0'
      have hLD : L = D := by
        apply List.ext_getElem
        · rw [hLn, hml.out]
        · intro j h1 h2
          have := hL.out j (by omega)
          simpa [nth, h1, h2] using this
      subst hLD
      replace d0 := Hide.mk d0
      replace d3 := Hide.mk d3
      replace d0' := Hide.mk d0'
      replace hkp := Hide.mk hkp
      replace hx := Hide.mk hx
      replace hd := Hide.mk hd
      replace hr := Hide.mk hr
      replace hp := Hide.mk hp
      repeat' (first | apply goSeq | apply goReg | apply goSeqN | apply goSeqR | apply goSkip | apply goRet | apply goNil | apply goBlock | apply goExit | apply goBlkN | apply goBlkR | apply goBlkE | apply goSeqE | apply goLoopR | apply goLoopE | (apply goOp; (· (simp [*]; try exact rfl)); (· exact rfl)) | (apply goOp0; (· (simp [*]; try exact rfl)); (· exact rfl)) | (apply goYes; (· (simp [*]; done)); (· (simp [*]; try exact rfl)); (· exact rfl)) | (apply goNo; (· (simp [*]; done))) | (apply goNoU; (· (simp; exact rfl))) | (apply goIfT; (· (simp [*]; done))) | (apply goIfF; (· (simp [*]; done))) | (apply goIf; (· (simp; exact rfl)); (· with_reducible exact rfl)) | (apply goSplit; (· (simp; exact rfl)); (· with_reducible exact rfl)) | (apply goIfQ; (· (simp; exact rfl)); (· exact rfl)) | (apply goSplitQ; (· (simp; exact rfl)); (· exact rfl)) | (apply goBlkX; (· rfl)) | intro _)
      have hlo : ∀ p ∈ b1 ++ b2, p.2 ≠ q0 := fun p hp => by
        rcases List.mem_append.1 hp with hp | hp
        · have := (f1.out.2 p hp).1; omega
        · have := (f2.out.2 p hp).1; omega
      refine goEndR (vs := [.agg [shv, dav]]) (bs := b1 ++ b2) (d := q3) (t := .agg [clT sv s, trF L]) hw hp.out.pre ?_ ?_ (by simp) (by simp [rs138, lr]) rfl hv.out
      · refine rep_agg2.2 ⟨shv, dav, b1, b2, rfl, ?_, ?_, rfl⟩
        · exact rep_down _ (c0 := 0) ((clT_is hs.out).ok 0) (Nat.zero_le _) (by omega) (Rep.keep (clT sv s) (fun p hp => hkp.out p.1 p.2 (hlo p (by simp [hp]))) hr.out)
        · exact rep_down _ (c0 := 0) (okT_F 0 _) (Nat.zero_le _) (by omega) (Rep.keep (trF L) (fun p hp => hkp.out p.1 p.2 (hlo p (by simp [hp]))) hd.out)
      · exact (f1.out.wide (by omega) (Nat.le_refl _)).app f2.out (by omega) h12
  · cases hv
/- Walks: filled tensors; parts of tensors. -/
@[simp] theorem xdo_mkf {E : Env} {sh : Bool} {s : Sl} {H : Hp} (g : Nat) (caps : Array Operand) : xdo E T sh (.makeFunc (.func g) #[] caps) s H = some (.func g (caps.toList.map (ev s)), H) := by simp [xdo, aop]
theorem abox_one {x : AV} (H : Hp) (h : x.one = true) : abox x H = some (.ptr H.bs.length H.c 0, H.new [x]) := by
  have hx : x.cells = [x] := by cases x <;> first | rfl | cases h
  simp [abox, hx, h]
theorem rep_tupI {c : Nat} {H : Hp} {a : Tr} {n : Int} {x : AV} {bs : List (Nat × Nat)} : Rep c H (.tup [a, .at (.int .i64 n)]) (.tup [x, .int .i64 n]) bs ↔ Rep c H a x bs := by
  simp only [Rep, Reps]
  constructor
  · rintro ⟨vs, e, v, vs', b1, b2, rfl, h1, ⟨w, vs'', b3, b4, rfl, ⟨rfl, rfl, _⟩, ⟨rfl, rfl⟩, rfl⟩, rfl⟩
    cases e
    simpa using h1
  · intro h
    exact ⟨_, rfl, x, _, bs, [], rfl, h, ⟨_, [], [], [], rfl, ⟨rfl, rfl, rfl⟩, ⟨rfl, rfl⟩, rfl⟩, by simp⟩
/-- No tensor, and why. -/
def zeroT (e : Int) : Tr := .tup [.agg [.at .nilS, .at .nilS], .at (.int .i64 e)]
def okTn (a b : Tr) : Tr := .tup [.agg [a, b], .at (.int .i64 0)]
theorem rep_zero (c : Nat) (H : Hp) (e : Int) : Rep c H (zeroT e) (.tup [.agg [.nilS, .nilS], .int .i64 e]) [] := by
  unfold zeroT
  rw [rep_tupI, rep_agg2]
  exact ⟨_, _, [], [], rfl, by simp [Rep, old], by simp [Rep, old], rfl⟩
theorem mk_zero (H : Hp) (e : Int) : mk (zeroT e) H = (.tup [.agg [.nilS, .nilS], .int .i64 e], H) := by simp [zeroT, mk, mks]
theorem mk_okTn (H : Hp) (a b : Tr) : mk (okTn a b) H = (.tup [(mk (.agg [a, b]) H).1, .int .i64 0], (mk (.agg [a, b]) H).2) := by simp [okTn, mk, mks]
/-- A filled tensor. -/
def fillT (s : AV) (l : List Int) (n : Int) : Tr := if shapeOK l = true then okTn (clT s l) (trF (madeL (fun _ => n) l)) else zeroT 13
def F94 (args : List AV) (H : Hp) : Option (AV × Hp) := match args with
  | [s, .int .i64 n] => (ints H s).bind fun l => if notMt s = true ∧ l.length < 1099511627776 then some (mk (fillT s l n) H) else none
  | _ => none
set_option maxHeartbeats 1000000 in
theorem snd94 : Sound Try.prog 94 (FSem.eff F94).run := by
  refine sound_of hT (EOK_cons snd90 (EOK_cons snd138 (EOK_nil _))) mixed A94 Try.func94 hb94 (by kernel_rfl) (by kernel_rfl) (by kernel_rfl) (by kernel_rfl) sh94 2 (by kernel_rfl) rs94 hr94 ?_
  intro args H r H' hw h
  have hv : F94 args H = some (r, H') := h
  clear h
  unfold F94 at hv
  split at hv
  · rename_i sv n
    obtain ⟨s, hs, hv⟩ := Option.bind_eq_some_iff.1 hv
    split at hv
    rotate_left
    · cases hv
    rename_i hmax
    obtain ⟨hmt, hmax⟩ := hmax
    replace hv := Option.some.inj hv
    have hbx := abox_one (x := .int .i64 n) H rfl
    have x0 : Ext H (H.new [.int .i64 n]) := (Ext.refl hw).new _
    have a0 := new_at H [AV.int .i64 n]
    have hvlt : H.c < (H.new [AV.int .i64 n]).c := Nat.lt_succ_self _
    generalize hH0 : H.new [.int .i64 n] = H0 at *
    generalize hp0 : H.bs.length = p0 at *
    generalize hq0 : H.c = q0 at *
    have x1 : Ext H0 (H0.new [.nilS, .nilS]) := (Ext.refl x0.wf).new _
    have a1 := new_at H0 [.nilS, .nilS]
    have hq1 : q0 < H0.c := hvlt
    have c1 : OwnC H0 (H0.new [.nilS, .nilS]) H0.bs.length H0.c [.nilS, .nilS] := ⟨Nat.le_refl _, a1⟩
    have hq1lt : H0.c < (H0.new [AV.nilS, AV.nilS]).c := Nat.lt_succ_self _
    generalize hH1 : H0.new [.nilS, .nilS] = H1 at *
    generalize hp1 : H0.bs.length = p1 at *
    generalize hq1' : H0.c = q1 at *
    have x01 : Ext H H1 := x0.trans x1
    have hs1 := ints_ext x01.pre hs
    have hHc : H.c ≤ q1 := by omega
    refine ⟨rfl, go ?_⟩
    unfold c94
    simp only [argSl]
    replace hv := Hide.mk hv
    replace hs := Hide.mk hs
    replace x0 := Hide.mk x0
    replace x1 := Hide.mk x1
    replace x01 := Hide.mk x01
    replace a0 := Hide.mk a0
    replace c1 := Hide.mk c1
    rcases hok : shapeOK s with _ | _
    · have st := st40 (x := .nilS) (y := .nilS) c1.out.at' rfl rfl
      have lr := ld40 (at_put_same (k' := ⟨q1, [.nilS, .nilS], true, true⟩) c1.out.at' rfl)
      have hp := put_ext (cs := [.nilS, .nilS]) hw x01.out hHc c1.out.at'
      replace hp := Hide.mk hp
      replace a1 := Hide.mk a1
      repeat' (first | apply goSeq | apply goReg | apply goSeqN | apply goSeqR | apply goSkip | apply goRet | apply goNil | apply goBlock | apply goExit | apply goBlkN | apply goBlkR | apply goBlkE | apply goSeqE | apply goLoopR | apply goLoopE | (apply goOp; (· (simp [*]; try exact rfl)); (· exact rfl)) | (apply goOp0; (· (simp [*]; try exact rfl)); (· exact rfl)) | (apply goYes; (· (simp [*]; done)); (· (simp [*]; try exact rfl)); (· exact rfl)) | (apply goNo; (· (simp [*]; done))) | (apply goNoU; (· (simp; exact rfl))) | (apply goIfT; (· (simp [*]; done))) | (apply goIfF; (· (simp [*]; done))) | (apply goIf; (· (simp; exact rfl)); (· with_reducible exact rfl)) | (apply goSplit; (· (simp; exact rfl)); (· with_reducible exact rfl)) | (apply goIfQ; (· (simp; exact rfl)); (· exact rfl)) | (apply goSplitQ; (· (simp; exact rfl)); (· exact rfl)) | (apply goBlkX; (· rfl)) | intro _)
      refine goEndR (vs := [.agg [.nilS, .nilS], .int .i64 13]) (bs := []) (d := H.c) (t := zeroT 13) hw hp.out.pre (rep_zero _ _ _) (Fresh.nil _ _) (by simp) (by simp [rs94, lr]) rfl ?_
      rw [← hv.out]; simp [fillT, hok]
    · have hcb : cbF H1 (.func 139 [.ptr p0 q0 0]) s.length = some (fun _ => n) := by
        have : aload T 2 (.ptr p0 q0 0) H1 = some (.int .i64 n) := by simp [aload, T2, x1.out.pre.at a0.out]
        simp only [cbF, this]
      have e138 : F138 [sv, .func 139 [.ptr p0 q0 0]] H1 = some (mk (.agg [clT sv s, trF (madeL (fun _ => n) s)]) H1) := by
        show (ints H1 sv).bind _ = _
        rw [hs1, Option.bind_some, hcb, Option.bind_some, if_pos ⟨hmt, hmax⟩]
      obtain ⟨bs, r1, f1, x2, t2⟩ := mk_tens (H := H1) x01.out.wf (a := clT sv s) (b := trF (madeL (fun _ => n) s)) (clT_is hs1) (.inr (.inl rfl)) (by omega) (by rw [madeL_len]; have := sizeOf_le s; omega)
      generalize hr1 : mk (.agg [clT sv s, trF (madeL (fun _ => n) s)]) H1 = tt at *
      obtain ⟨tv, H2⟩ := tt
      simp only at r1 f1 x2 t2
      obtain ⟨shv, dav, b1, b2, rfl, rs1, rd1, hbs⟩ := rep_agg2.1 r1
      obtain ⟨_, _, hag, hsi, hdi⟩ := tens_some t2
      cases hag
      have hone := ints_one' hsi
      have hone2 := ints_one' hdi
      have c2 := c1.out.ext x2.pre
      have st := st40 (x := shv) (y := dav) c2.at' hone hone2
      have lr := ld40 (at_put_same (k' := ⟨q1, [shv, dav], true, true⟩) c2.at' rfl)
      have hkp : ∀ b' ver', ver' ≠ q1 → Keeps H2 (H2.put p1 ⟨q1, [shv, dav], true, true⟩) b' ver' := fun b' ver' h => Keeps.put c2.at' h
      have hp := put_ext (cs := [shv, dav]) hw (x01.out.trans x2) hHc c2.at'
      replace hp := Hide.mk hp
      replace a1 := Hide.mk a1
      replace r1 := Hide.mk r1
      replace f1 := Hide.mk f1
      replace hkp := Hide.mk hkp
      replace c2 := Hide.mk c2
      replace x2 := Hide.mk x2
      clear rs1 rd1 hsi hdi t2 hcb hr1
      repeat' (first | apply goSeq | apply goReg | apply goSeqN | apply goSeqR | apply goSkip | apply goRet | apply goNil | apply goBlock | apply goExit | apply goBlkN | apply goBlkR | apply goBlkE | apply goSeqE | apply goLoopR | apply goLoopE | (apply goOp; (· (simp [*]; try exact rfl)); (· exact rfl)) | (apply goOp0; (· (simp [*]; try exact rfl)); (· exact rfl)) | (apply goYes; (· (simp [*]; done)); (· (simp [*]; try exact rfl)); (· exact rfl)) | (apply goNo; (· (simp [*]; done))) | (apply goNoU; (· (simp; exact rfl))) | (apply goIfT; (· (simp [*]; done))) | (apply goIfF; (· (simp [*]; done))) | (apply goIf; (· (simp; exact rfl)); (· with_reducible exact rfl)) | (apply goSplit; (· (simp; exact rfl)); (· with_reducible exact rfl)) | (apply goIfQ; (· (simp; exact rfl)); (· exact rfl)) | (apply goSplitQ; (· (simp; exact rfl)); (· exact rfl)) | (apply goBlkX; (· rfl)) | intro _)
      refine goEndR (vs := [.agg [shv, dav], .int .i64 0]) (bs := bs) (d := H2.c) (t := okTn (clT sv s) (trF (madeL (fun _ => n) s))) hw hp.out.pre ?_ ?_ (by simp) (by simp [rs94, lr]) rfl ?_
      · unfold okTn
        show Rep _ _ _ (AV.tup [_, _]) _
        rw [rep_tupI]
        have := Rep.keep _ (fun p hp => hkp.out p.1 p.2 (by have := (f1.out.2 p hp).1; omega)) r1.out
        exact rep_down _ (c0 := 0) (by simp [okT, okTs, (clT_is hs.out).ok, okT_F]) (Nat.zero_le _) (by omega) this
      · exact f1.out.wide (by omega) (Nat.le_refl _)
      · rw [← hv.out]; simp [fillT, hok]
  · cases hv
end Go.Proofs.Ytokadkakmhfdeaa.Pq
