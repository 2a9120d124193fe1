/- Functions in short form. -/
import Derived.Test.YtokadkakmhfdeaaPqS
import Derived.Test.YtokadkakmhfdeaaPqT
set_option linter.unusedVariables false
namespace Go.Proofs.Ytokadkakmhfdeaa.Pq
open Go.RowKit

/-! parquetry/mesh.Devices (1 parameters; calls 89 parquetry/mesh.Right) -/
def A88 : Ann := { live := fun i => if i = 5 then [3, 9, 10, 11] else [], drop := fun i => false }
noncomputable def c88 : Cc :=
  (.seq (.reg false [⟨some 2, (Op.assign (Operand.const (Value.int IntKind.i64 0))), none⟩])
  (.seq (.seq (.reg false [⟨some 6, (Op.move (Operand.tmp 0)), none⟩,
    ⟨some 7, (Op.call { callee := (Callee.value (Operand.func 89)), args := #[(Operand.tmp 6)], argTypes := #[22] }), none⟩,
    ⟨some 8, (Op.unOp UnOp.not 4 (Operand.tmp 7)), none⟩])
  (.cond (Operand.tmp 8)
    (.seq (.reg false [⟨some 2, (Op.assign (Operand.const (Value.int IntKind.i64 0))), none⟩])
    .ret)
    .skip))
  (.seq (.reg false [⟨some 3, (Op.assign (Operand.const (Value.int IntKind.i64 1))), none⟩])
  (.seq (.seq (.reg false [⟨some 9, (Op.move (Operand.tmp 0)), none⟩,
    ⟨some 10, (Op.call { callee := (Callee.builtin Builtin.len), args := #[(Operand.tmp 9)], argTypes := #[22] }), none⟩,
    ⟨some 11, (Op.move (Operand.const (Value.int IntKind.i64 0))), none⟩])
  (.block 0 (.loop [3, 9, 10, 11] false
    (.seq (.reg false [⟨some 12, (Op.binOp BinOp.lss 3 (Operand.tmp 11) (Operand.tmp 10) 3), none⟩])
    (.seq (.cond (Operand.tmp 12)
      .skip
      (.exit 0))
    (.seq (.block 1 (.seq (.reg false [⟨some 13, (Op.indexAddr 22 (Operand.tmp 9) (Operand.tmp 11)), none⟩,
      ⟨some 14, (Op.load 3 (Operand.tmp 13)), none⟩,
      ⟨some 5, (Op.assign (Operand.tmp 14)), none⟩])
    (.reg false [⟨some 15, (Op.move (Operand.tmp 3)), none⟩,
      ⟨some 16, (Op.move (Operand.tmp 5)), none⟩,
      ⟨some 17, (Op.binOp BinOp.mul 3 (Operand.tmp 15) (Operand.tmp 16) 3), none⟩,
      ⟨some 3, (Op.assign (Operand.tmp 17)), none⟩])))
    (.reg false [⟨some 18, (Op.binOp BinOp.add 3 (Operand.tmp 11) (Operand.const (Value.int IntKind.i64 1)) 3), none⟩,
      ⟨some 11, (Op.move (Operand.tmp 18)), none⟩])))))))
  (.seq (.reg false [⟨some 19, (Op.move (Operand.tmp 3)), none⟩,
    ⟨some 2, (Op.assign (Operand.tmp 19)), none⟩])
  .ret)))))
noncomputable def b88 : Code := Try.f88.body.getD .skip
theorem hb88 : Try.f88.body = some b88 := by kernel_rfl
theorem sh88 : shortC A88 b88 = c88 := by kernel_rfl
theorem ok88 : (okSlots Try.f88.ntmps b88 && okRecs A88 b88) = true := by kernel_rfl
def rs88 : List ResultVar := [(ResultVar.tmp 2)]
theorem hr88 : Try.f88.results.toList = rs88 := by kernel_rfl

/-! parquetry/shape.Right (1 parameters; calls none) -/
def A90 : Ann := { live := fun i => if i = 5 then [3, 9, 10, 11] else [], drop := fun i => false }
noncomputable def c90 : Cc :=
  (.seq (.reg false [⟨some 2, (Op.assign (Operand.const (Value.bool false))), none⟩])
  (.seq (.seq (.reg false [⟨some 6, (Op.move (Operand.tmp 0)), none⟩,
    ⟨some 7, (Op.call { callee := (Callee.builtin Builtin.len), args := #[(Operand.tmp 6)], argTypes := #[22] }), none⟩,
    ⟨some 8, (Op.binOp BinOp.gtr 3 (Operand.tmp 7) (Operand.const (Value.int IntKind.i64 4)) 3), none⟩])
  (.cond (Operand.tmp 8)
    (.seq (.reg false [⟨some 2, (Op.assign (Operand.const (Value.bool false))), none⟩])
    .ret)
    .skip))
  (.seq (.reg false [⟨some 3, (Op.assign (Operand.const (Value.int IntKind.i64 1))), none⟩])
  (.seq (.seq (.reg false [⟨some 9, (Op.move (Operand.tmp 0)), none⟩,
    ⟨some 10, (Op.call { callee := (Callee.builtin Builtin.len), args := #[(Operand.tmp 9)], argTypes := #[22] }), none⟩,
    ⟨some 11, (Op.move (Operand.const (Value.int IntKind.i64 0))), none⟩])
  (.block 0 (.loop [3, 9, 10, 11] false
    (.seq (.reg false [⟨some 12, (Op.binOp BinOp.lss 3 (Operand.tmp 11) (Operand.tmp 10) 3), none⟩])
    (.seq (.cond (Operand.tmp 12)
      .skip
      (.exit 0))
    (.seq (.block 1 (.seq (.reg false [⟨some 13, (Op.indexAddr 22 (Operand.tmp 9) (Operand.tmp 11)), none⟩,
      ⟨some 14, (Op.load 3 (Operand.tmp 13)), none⟩,
      ⟨some 5, (Op.assign (Operand.tmp 14)), none⟩])
    (.seq (.seq (.reg false [⟨some 15, (Op.move (Operand.tmp 5)), none⟩,
      ⟨some 16, (Op.binOp BinOp.lss 3 (Operand.tmp 15) (Operand.const (Value.int IntKind.i64 0)) 3), none⟩,
      ⟨some 17, (Op.move (Operand.tmp 16)), none⟩,
      ⟨some 18, (Op.move (Operand.tmp 5)), some (17, false)⟩,
      ⟨some 19, (Op.binOp BinOp.gtr 3 (Operand.tmp 18) (Operand.const (Value.int IntKind.i64 32)) 3), some (17, false)⟩,
      ⟨some 20, (Op.pick (Operand.tmp 17) (Operand.const (Value.bool true)) (Operand.tmp 19)), none⟩])
    (.cond (Operand.tmp 20)
      (.seq (.reg false [⟨some 2, (Op.assign (Operand.const (Value.bool false))), none⟩])
      .ret)
      .skip))
    (.reg false [⟨some 21, (Op.move (Operand.tmp 3)), none⟩,
      ⟨some 22, (Op.move (Operand.tmp 5)), none⟩,
      ⟨some 23, (Op.binOp BinOp.mul 3 (Operand.tmp 21) (Operand.tmp 22) 3), none⟩,
      ⟨some 3, (Op.assign (Operand.tmp 23)), none⟩]))))
    (.reg false [⟨some 24, (Op.binOp BinOp.add 3 (Operand.tmp 11) (Operand.const (Value.int IntKind.i64 1)) 3), none⟩,
      ⟨some 11, (Op.move (Operand.tmp 24)), none⟩])))))))
  (.seq (.reg false [⟨some 25, (Op.move (Operand.tmp 3)), none⟩,
    ⟨some 26, (Op.binOp BinOp.leq 3 (Operand.tmp 25) (Operand.const (Value.int IntKind.i64 4096)) 3), none⟩,
    ⟨some 2, (Op.assign (Operand.tmp 26)), none⟩])
  .ret)))))
noncomputable def b90 : Code := Try.f90.body.getD .skip
theorem hb90 : Try.f90.body = some b90 := by kernel_rfl
theorem sh90 : shortC A90 b90 = c90 := by kernel_rfl
theorem ok90 : (okSlots Try.f90.ntmps b90 && okRecs A90 b90) = true := by kernel_rfl
def rs90 : List ResultVar := [(ResultVar.tmp 2)]
theorem hr90 : Try.f90.results.toList = rs90 := by kernel_rfl

/-! slices.Index[[]int,int] (2 parameters; calls none) -/
def A157 : Ann := { live := fun i => if i = 2 then [0, 1, 7, 8] else [], drop := fun i => false }
noncomputable def c157 : Cc :=
  (.seq (.reg false [⟨some 4, (Op.assign (Operand.const (Value.int IntKind.i64 0))), none⟩])
  (.seq (.seq (.reg false [⟨some 6, (Op.move (Operand.tmp 0)), none⟩,
    ⟨some 7, (Op.call { callee := (Callee.builtin Builtin.len), args := #[(Operand.tmp 6)], argTypes := #[22] }), none⟩,
    ⟨some 8, (Op.move (Operand.const (Value.int IntKind.i64 0))), none⟩])
  (.block 0 (.loop [0, 1, 7, 8] false
    (.seq (.reg false [⟨some 9, (Op.binOp BinOp.lss 3 (Operand.tmp 8) (Operand.tmp 7) 3), none⟩])
    (.seq (.cond (Operand.tmp 9)
      .skip
      (.exit 0))
    (.seq (.block 1 (.seq (.reg false [⟨some 10, (Op.move (Operand.tmp 8)), none⟩,
      ⟨some 5, (Op.assign (Operand.tmp 10)), none⟩])
    (.seq (.reg false [⟨some 11, (Op.move (Operand.tmp 1)), none⟩,
      ⟨some 12, (Op.move (Operand.tmp 0)), none⟩,
      ⟨some 13, (Op.move (Operand.tmp 5)), none⟩,
      ⟨some 14, (Op.indexAddr 22 (Operand.tmp 12) (Operand.tmp 13)), none⟩,
      ⟨some 15, (Op.load 3 (Operand.tmp 14)), none⟩,
      ⟨some 16, (Op.binOp BinOp.eql 3 (Operand.tmp 11) (Operand.tmp 15) 3), none⟩])
    (.cond (Operand.tmp 16)
      (.seq (.reg false [⟨some 17, (Op.move (Operand.tmp 5)), none⟩,
        ⟨some 4, (Op.assign (Operand.tmp 17)), none⟩])
      .ret)
      .skip))))
    (.reg false [⟨some 18, (Op.binOp BinOp.add 3 (Operand.tmp 8) (Operand.const (Value.int IntKind.i64 1)) 3), none⟩,
      ⟨some 8, (Op.move (Operand.tmp 18)), none⟩])))))))
  (.seq (.reg false [⟨some 4, (Op.assign (Operand.const (Value.int IntKind.i64 (-1)))), none⟩])
  .ret)))
noncomputable def b157 : Code := Try.f157.body.getD .skip
theorem hb157 : Try.f157.body = some b157 := by kernel_rfl
theorem sh157 : shortC A157 b157 = c157 := by kernel_rfl
theorem ok157 : (okSlots Try.f157.ntmps b157 && okRecs A157 b157) = true := by kernel_rfl
def rs157 : List ResultVar := [(ResultVar.tmp 4)]
theorem hr157 : Try.f157.results.toList = rs157 := by kernel_rfl

/-! slices.Contains[[]int,int] (2 parameters; calls 157 slices.Index[[]int,int]) -/
def A125 : Ann := { drop := fun i => false }
noncomputable def c125 : Cc :=
  (.seq (.reg false [⟨some 4, (Op.assign (Operand.const (Value.bool false))), none⟩])
  (.seq (.reg false [⟨some 5, (Op.move (Operand.tmp 0)), none⟩,
    ⟨some 6, (Op.move (Operand.tmp 1)), none⟩,
    ⟨some 7, (Op.call { callee := (Callee.value (Operand.func 157)), args := #[(Operand.tmp 5), (Operand.tmp 6)], argTypes := #[22, 3] }), none⟩,
    ⟨some 8, (Op.binOp BinOp.geq 3 (Operand.tmp 7) (Operand.const (Value.int IntKind.i64 0)) 3), none⟩,
    ⟨some 4, (Op.assign (Operand.tmp 8)), none⟩])
  .ret))
noncomputable def b125 : Code := Try.f125.body.getD .skip
theorem hb125 : Try.f125.body = some b125 := by kernel_rfl
theorem sh125 : shortC A125 b125 = c125 := by kernel_rfl
theorem ok125 : (okSlots Try.f125.ntmps b125 && okRecs A125 b125) = true := by kernel_rfl
def rs125 : List ResultVar := [(ResultVar.tmp 4)]
theorem hr125 : Try.f125.results.toList = rs125 := by kernel_rfl

/-! parquetry/spec.Right (3 parameters; calls 89 parquetry/mesh.Right, 125 slices.Contains[[]int,int]) -/
def A63 : Ann := { live := fun i => if i = 4 then [0, 1, 18, 19, 20] else [], drop := fun i => false }
noncomputable def c63 : Cc :=
  (.seq (.reg false [⟨some 6, (Op.assign (Operand.const (Value.bool false))), none⟩])
  (.seq (.seq (.reg false [⟨some 9, (Op.move (Operand.tmp 0)), none⟩,
    ⟨some 10, (Op.call { callee := (Callee.value (Operand.func 89)), args := #[(Operand.tmp 9)], argTypes := #[22] }), none⟩,
    ⟨some 11, (Op.unOp UnOp.not 4 (Operand.tmp 10)), none⟩,
    ⟨some 12, (Op.move (Operand.tmp 11)), none⟩,
    ⟨some 13, (Op.move (Operand.tmp 1)), some (12, false)⟩,
    ⟨some 14, (Op.call { callee := (Callee.builtin Builtin.len), args := #[(Operand.tmp 13)], argTypes := #[22] }), some (12, false)⟩,
    ⟨some 15, (Op.move (Operand.tmp 2)), some (12, false)⟩,
    ⟨some 16, (Op.binOp BinOp.neq 3 (Operand.tmp 14) (Operand.tmp 15) 3), some (12, false)⟩,
    ⟨some 17, (Op.pick (Operand.tmp 12) (Operand.const (Value.bool true)) (Operand.tmp 16)), none⟩])
  (.cond (Operand.tmp 17)
    (.seq (.reg false [⟨some 6, (Op.assign (Operand.const (Value.bool false))), none⟩])
    .ret)
    .skip))
  (.seq (.seq (.reg false [⟨some 18, (Op.move (Operand.tmp 1)), none⟩,
    ⟨some 19, (Op.call { callee := (Callee.builtin Builtin.len), args := #[(Operand.tmp 18)], argTypes := #[22] }), none⟩,
    ⟨some 20, (Op.move (Operand.const (Value.int IntKind.i64 0))), none⟩])
  (.block 0 (.loop [0, 1, 18, 19, 20] false
    (.seq (.reg false [⟨some 21, (Op.binOp BinOp.lss 3 (Operand.tmp 20) (Operand.tmp 19) 3), none⟩])
    (.seq (.cond (Operand.tmp 21)
      .skip
      (.exit 0))
    (.seq (.block 1 (.seq (.reg false [⟨some 22, (Op.move (Operand.tmp 20)), none⟩,
      ⟨some 23, (Op.indexAddr 22 (Operand.tmp 18) (Operand.tmp 20)), none⟩,
      ⟨some 24, (Op.load 3 (Operand.tmp 23)), none⟩,
      ⟨some 7, (Op.assign (Operand.tmp 22)), none⟩,
      ⟨some 8, (Op.assign (Operand.tmp 24)), none⟩])
    (.seq (.reg false [⟨some 25, (Op.move (Operand.tmp 8)), none⟩,
      ⟨some 26, (Op.binOp BinOp.lss 3 (Operand.tmp 25) (Operand.const (Value.int IntKind.i64 (-1))) 3), none⟩,
      ⟨some 27, (Op.move (Operand.tmp 26)), none⟩,
      ⟨some 28, (Op.move (Operand.tmp 8)), some (27, false)⟩,
      ⟨some 29, (Op.move (Operand.tmp 0)), some (27, false)⟩,
      ⟨some 30, (Op.call { callee := (Callee.builtin Builtin.len), args := #[(Operand.tmp 29)], argTypes := #[22] }), some (27, false)⟩,
      ⟨some 31, (Op.binOp BinOp.geq 3 (Operand.tmp 28) (Operand.tmp 30) 3), some (27, false)⟩,
      ⟨some 32, (Op.pick (Operand.tmp 27) (Operand.const (Value.bool true)) (Operand.tmp 31)), none⟩,
      ⟨some 33, (Op.move (Operand.tmp 32)), none⟩,
      ⟨some 34, (Op.move (Operand.tmp 8)), some (33, false)⟩,
      ⟨some 35, (Op.binOp BinOp.neq 3 (Operand.tmp 34) (Operand.const (Value.int IntKind.i64 (-1))) 3), some (33, false)⟩,
      ⟨some 36, (Op.move (Operand.tmp 35)), some (33, false)⟩,
      ⟨some 37, (Op.move (Operand.tmp 1)), some (36, true)⟩,
      ⟨some 38, (Op.move (Operand.tmp 7)), some (36, true)⟩,
      ⟨some 39, (Op.slice 22 (Operand.tmp 37) none (some (Operand.tmp 38)) none), some (36, true)⟩,
      ⟨some 40, (Op.move (Operand.tmp 8)), some (36, true)⟩,
      ⟨some 41, (Op.call { callee := (Callee.value (Operand.func 125)), args := #[(Operand.tmp 39), (Operand.tmp 40)], argTypes := #[22, 3] }), some (36, true)⟩,
      ⟨some 42, (Op.pick (Operand.tmp 36) (Operand.tmp 41) (Operand.const (Value.bool false))), some (33, false)⟩,
      ⟨some 43, (Op.pick (Operand.tmp 33) (Operand.const (Value.bool true)) (Operand.tmp 42)), none⟩])
    (.cond (Operand.tmp 43)
      (.seq (.reg false [⟨some 6, (Op.assign (Operand.const (Value.bool false))), none⟩])
      .ret)
      .skip))))
    (.reg false [⟨some 44, (Op.binOp BinOp.add 3 (Operand.tmp 20) (Operand.const (Value.int IntKind.i64 1)) 3), none⟩,
      ⟨some 20, (Op.move (Operand.tmp 44)), none⟩])))))))
  (.seq (.reg false [⟨some 6, (Op.assign (Operand.const (Value.bool true))), none⟩])
  .ret))))
noncomputable def b63 : Code := Try.f63.body.getD .skip
theorem hb63 : Try.f63.body = some b63 := by kernel_rfl
theorem sh63 : shortC A63 b63 = c63 := by kernel_rfl
theorem ok63 : (okSlots Try.f63.ntmps b63 && okRecs A63 b63) = true := by kernel_rfl
def rs63 : List ResultVar := [(ResultVar.tmp 6)]
theorem hr63 : Try.f63.results.toList = rs63 := by kernel_rfl

/-! parquetry/parquetryref14.Right (1 parameters; calls none) -/
def A56 : Ann := { live := fun i => if i = 3 then [0, 3, 6, 7] else [], drop := fun i => false }
noncomputable def c56 : Cc :=
  (.seq (.reg false [⟨some 2, (Op.assign (Operand.const (Value.bool false))), none⟩])
  (.seq (.reg false [⟨some 3, (Op.assign (Operand.const (Value.int IntKind.i64 1))), none⟩])
  (.seq (.seq (.reg false [⟨some 5, (Op.move (Operand.tmp 0)), none⟩,
    ⟨some 6, (Op.call { callee := (Callee.builtin Builtin.len), args := #[(Operand.tmp 5)], argTypes := #[22] }), none⟩,
    ⟨some 7, (Op.move (Operand.const (Value.int IntKind.i64 0))), none⟩])
  (.block 0 (.loop [0, 3, 6, 7] false
    (.seq (.reg false [⟨some 8, (Op.binOp BinOp.lss 3 (Operand.tmp 7) (Operand.tmp 6) 3), none⟩])
    (.seq (.cond (Operand.tmp 8)
      .skip
      (.exit 0))
    (.seq (.block 1 (.seq (.reg false [⟨some 9, (Op.move (Operand.tmp 7)), none⟩,
      ⟨some 4, (Op.assign (Operand.tmp 9)), none⟩])
    (.seq (.seq (.reg false [⟨some 10, (Op.move (Operand.tmp 4)), none⟩,
      ⟨some 11, (Op.binOp BinOp.geq 3 (Operand.tmp 10) (Operand.const (Value.int IntKind.i64 3)) 3), none⟩,
      ⟨some 12, (Op.move (Operand.tmp 11)), none⟩,
      ⟨some 13, (Op.move (Operand.tmp 0)), some (12, false)⟩,
      ⟨some 14, (Op.move (Operand.tmp 4)), some (12, false)⟩,
      ⟨some 15, (Op.indexAddr 22 (Operand.tmp 13) (Operand.tmp 14)), some (12, false)⟩,
      ⟨some 16, (Op.load 3 (Operand.tmp 15)), some (12, false)⟩,
      ⟨some 17, (Op.binOp BinOp.lss 3 (Operand.tmp 16) (Operand.const (Value.int IntKind.i64 1)) 3), some (12, false)⟩,
      ⟨some 18, (Op.pick (Operand.tmp 12) (Operand.const (Value.bool true)) (Operand.tmp 17)), none⟩,
      ⟨some 19, (Op.move (Operand.tmp 18)), none⟩,
      ⟨some 20, (Op.move (Operand.tmp 0)), some (19, false)⟩,
      ⟨some 21, (Op.move (Operand.tmp 4)), some (19, false)⟩,
      ⟨some 22, (Op.indexAddr 22 (Operand.tmp 20) (Operand.tmp 21)), some (19, false)⟩,
      ⟨some 23, (Op.load 3 (Operand.tmp 22)), some (19, false)⟩,
      ⟨some 24, (Op.binOp BinOp.gtr 3 (Operand.tmp 23) (Operand.const (Value.int IntKind.i64 8)) 3), some (19, false)⟩,
      ⟨some 25, (Op.pick (Operand.tmp 19) (Operand.const (Value.bool true)) (Operand.tmp 24)), none⟩])
    (.cond (Operand.tmp 25)
      (.seq (.reg false [⟨some 2, (Op.assign (Operand.const (Value.bool false))), none⟩])
      .ret)
      .skip))
    (.reg false [⟨some 26, (Op.move (Operand.tmp 3)), none⟩,
      ⟨some 27, (Op.move (Operand.tmp 0)), none⟩,
      ⟨some 28, (Op.move (Operand.tmp 4)), none⟩,
      ⟨some 29, (Op.indexAddr 22 (Operand.tmp 27) (Operand.tmp 28)), none⟩,
      ⟨some 30, (Op.load 3 (Operand.tmp 29)), none⟩,
      ⟨some 31, (Op.binOp BinOp.mul 3 (Operand.tmp 26) (Operand.tmp 30) 3), none⟩,
      ⟨some 3, (Op.assign (Operand.tmp 31)), none⟩]))))
    (.reg false [⟨some 32, (Op.binOp BinOp.add 3 (Operand.tmp 7) (Operand.const (Value.int IntKind.i64 1)) 3), none⟩,
      ⟨some 7, (Op.move (Operand.tmp 32)), none⟩])))))))
  (.seq (.reg false [⟨some 33, (Op.move (Operand.tmp 3)), none⟩,
    ⟨some 34, (Op.binOp BinOp.leq 3 (Operand.tmp 33) (Operand.const (Value.int IntKind.i64 8)) 3), none⟩,
    ⟨some 2, (Op.assign (Operand.tmp 34)), none⟩])
  .ret))))
noncomputable def b56 : Code := Try.f56.body.getD .skip
theorem hb56 : Try.f56.body = some b56 := by kernel_rfl
theorem sh56 : shortC A56 b56 = c56 := by kernel_rfl
theorem ok56 : (okSlots Try.f56.ntmps b56 && okRecs A56 b56) = true := by kernel_rfl
def rs56 : List ResultVar := [(ResultVar.tmp 2)]
theorem hr56 : Try.f56.results.toList = rs56 := by kernel_rfl

/-! parquetry/parquetryref14.Devices (1 parameters; calls 56 parquetry/parquetryref14.Right) -/
def A20 : Ann := { live := fun i => if i = 5 then [0, 3, 9, 10] else [], drop := fun i => false }
noncomputable def c20 : Cc :=
  (.seq (.reg false [⟨some 2, (Op.assign (Operand.const (Value.int IntKind.i64 0))), none⟩])
  (.seq (.seq (.reg false [⟨some 5, (Op.move (Operand.tmp 0)), none⟩,
    ⟨some 6, (Op.call { callee := (Callee.value (Operand.func 56)), args := #[(Operand.tmp 5)], argTypes := #[22] }), none⟩,
    ⟨some 7, (Op.unOp UnOp.not 4 (Operand.tmp 6)), none⟩])
  (.cond (Operand.tmp 7)
    (.seq (.reg false [⟨some 2, (Op.assign (Operand.const (Value.int IntKind.i64 0))), none⟩])
    .ret)
    .skip))
  (.seq (.reg false [⟨some 3, (Op.assign (Operand.const (Value.int IntKind.i64 1))), none⟩])
  (.seq (.seq (.reg false [⟨some 8, (Op.move (Operand.tmp 0)), none⟩,
    ⟨some 9, (Op.call { callee := (Callee.builtin Builtin.len), args := #[(Operand.tmp 8)], argTypes := #[22] }), none⟩,
    ⟨some 10, (Op.move (Operand.const (Value.int IntKind.i64 0))), none⟩])
  (.block 0 (.loop [0, 3, 9, 10] false
    (.seq (.reg false [⟨some 11, (Op.binOp BinOp.lss 3 (Operand.tmp 10) (Operand.tmp 9) 3), none⟩])
    (.seq (.cond (Operand.tmp 11)
      .skip
      (.exit 0))
    (.seq (.block 1 (.seq (.reg false [⟨some 12, (Op.move (Operand.tmp 10)), none⟩,
      ⟨some 4, (Op.assign (Operand.tmp 12)), none⟩])
    (.reg false [⟨some 13, (Op.move (Operand.tmp 3)), none⟩,
      ⟨some 14, (Op.move (Operand.tmp 0)), none⟩,
      ⟨some 15, (Op.move (Operand.tmp 4)), none⟩,
      ⟨some 16, (Op.indexAddr 22 (Operand.tmp 14) (Operand.tmp 15)), none⟩,
      ⟨some 17, (Op.load 3 (Operand.tmp 16)), none⟩,
      ⟨some 18, (Op.binOp BinOp.mul 3 (Operand.tmp 13) (Operand.tmp 17) 3), none⟩,
      ⟨some 3, (Op.assign (Operand.tmp 18)), none⟩])))
    (.reg false [⟨some 19, (Op.binOp BinOp.add 3 (Operand.tmp 10) (Operand.const (Value.int IntKind.i64 1)) 3), none⟩,
      ⟨some 10, (Op.move (Operand.tmp 19)), none⟩])))))))
  (.seq (.reg false [⟨some 20, (Op.move (Operand.tmp 3)), none⟩,
    ⟨some 2, (Op.assign (Operand.tmp 20)), none⟩])
  .ret)))))
noncomputable def b20 : Code := Try.f20.body.getD .skip
theorem hb20 : Try.f20.body = some b20 := by kernel_rfl
theorem sh20 : shortC A20 b20 = c20 := by kernel_rfl
theorem ok20 : (okSlots Try.f20.ntmps b20 && okRecs A20 b20) = true := by kernel_rfl
def rs20 : List ResultVar := [(ResultVar.tmp 2)]
theorem hr20 : Try.f20.results.toList = rs20 := by kernel_rfl

/-! parquetry/parquetryref14.Spec (3 parameters; calls 56 parquetry/parquetryref14.Right) -/
def A58 : Ann := { live := fun i => if i = 4 then [0, 1, 19, 20] else if i = 9 then [0, 1, 7, 8, 19, 20] else [], drop := fun i => false }
noncomputable def c58 : Cc :=
  (.seq (.reg false [⟨some 6, (Op.assign (Operand.const (Value.bool false))), none⟩])
  (.seq (.seq (.reg false [⟨some 9, (Op.move (Operand.tmp 0)), none⟩,
    ⟨some 10, (Op.call { callee := (Callee.value (Operand.func 56)), args := #[(Operand.tmp 9)], argTypes := #[22] }), none⟩,
    ⟨some 11, (Op.unOp UnOp.not 4 (Operand.tmp 10)), none⟩,
    ⟨some 12, (Op.move (Operand.tmp 11)), none⟩,
    ⟨some 13, (Op.move (Operand.tmp 1)), some (12, false)⟩,
    ⟨some 14, (Op.call { callee := (Callee.builtin Builtin.len), args := #[(Operand.tmp 13)], argTypes := #[22] }), some (12, false)⟩,
    ⟨some 15, (Op.move (Operand.tmp 2)), some (12, false)⟩,
    ⟨some 16, (Op.binOp BinOp.neq 3 (Operand.tmp 14) (Operand.tmp 15) 3), some (12, false)⟩,
    ⟨some 17, (Op.pick (Operand.tmp 12) (Operand.const (Value.bool true)) (Operand.tmp 16)), none⟩])
  (.cond (Operand.tmp 17)
    (.seq (.reg false [⟨some 6, (Op.assign (Operand.const (Value.bool false))), none⟩])
    .ret)
    .skip))
  (.seq (.seq (.reg false [⟨some 18, (Op.move (Operand.tmp 1)), none⟩,
    ⟨some 19, (Op.call { callee := (Callee.builtin Builtin.len), args := #[(Operand.tmp 18)], argTypes := #[22] }), none⟩,
    ⟨some 20, (Op.move (Operand.const (Value.int IntKind.i64 0))), none⟩])
  (.block 0 (.loop [0, 1, 19, 20] false
    (.seq (.reg false [⟨some 21, (Op.binOp BinOp.lss 3 (Operand.tmp 20) (Operand.tmp 19) 3), none⟩])
    (.seq (.cond (Operand.tmp 21)
      .skip
      (.exit 0))
    (.seq (.block 1 (.seq (.reg false [⟨some 22, (Op.move (Operand.tmp 20)), none⟩,
      ⟨some 7, (Op.assign (Operand.tmp 22)), none⟩])
    (.seq (.seq (.reg false [⟨some 23, (Op.move (Operand.tmp 1)), none⟩,
      ⟨some 24, (Op.move (Operand.tmp 7)), none⟩,
      ⟨some 25, (Op.indexAddr 22 (Operand.tmp 23) (Operand.tmp 24)), none⟩,
      ⟨some 26, (Op.load 3 (Operand.tmp 25)), none⟩,
      ⟨some 27, (Op.binOp BinOp.lss 3 (Operand.tmp 26) (Operand.const (Value.int IntKind.i64 (-1))) 3), none⟩,
      ⟨some 28, (Op.move (Operand.tmp 27)), none⟩,
      ⟨some 29, (Op.move (Operand.tmp 1)), some (28, false)⟩,
      ⟨some 30, (Op.move (Operand.tmp 7)), some (28, false)⟩,
      ⟨some 31, (Op.indexAddr 22 (Operand.tmp 29) (Operand.tmp 30)), some (28, false)⟩,
      ⟨some 32, (Op.load 3 (Operand.tmp 31)), some (28, false)⟩,
      ⟨some 33, (Op.move (Operand.tmp 0)), some (28, false)⟩,
      ⟨some 34, (Op.call { callee := (Callee.builtin Builtin.len), args := #[(Operand.tmp 33)], argTypes := #[22] }), some (28, false)⟩,
      ⟨some 35, (Op.binOp BinOp.geq 3 (Operand.tmp 32) (Operand.tmp 34) 3), some (28, false)⟩,
      ⟨some 36, (Op.pick (Operand.tmp 28) (Operand.const (Value.bool true)) (Operand.tmp 35)), none⟩])
    (.cond (Operand.tmp 36)
      (.seq (.reg false [⟨some 6, (Op.assign (Operand.const (Value.bool false))), none⟩])
      .ret)
      .skip))
    (.seq (.reg false [⟨some 8, (Op.assign (Operand.const (Value.int IntKind.i64 0))), none⟩])
    (.block 2 (.loop [0, 1, 7, 8, 19, 20] false
      (.seq (.seq (.reg false [⟨some 37, (Op.move (Operand.tmp 8)), none⟩,
        ⟨some 38, (Op.move (Operand.tmp 7)), none⟩,
        ⟨some 39, (Op.binOp BinOp.lss 3 (Operand.tmp 37) (Operand.tmp 38) 3), none⟩,
        ⟨some 40, (Op.move (Operand.tmp 39)), none⟩,
        ⟨some 41, (Op.move (Operand.tmp 1)), some (40, true)⟩,
        ⟨some 42, (Op.move (Operand.tmp 7)), some (40, true)⟩,
        ⟨some 43, (Op.indexAddr 22 (Operand.tmp 41) (Operand.tmp 42)), some (40, true)⟩,
        ⟨some 44, (Op.load 3 (Operand.tmp 43)), some (40, true)⟩,
        ⟨some 45, (Op.binOp BinOp.geq 3 (Operand.tmp 44) (Operand.const (Value.int IntKind.i64 0)) 3), some (40, true)⟩,
        ⟨some 46, (Op.pick (Operand.tmp 40) (Operand.tmp 45) (Operand.const (Value.bool false))), none⟩])
      (.cond (Operand.tmp 46)
        .skip
        (.exit 2)))
      (.seq (.block 3 (.seq (.reg false [⟨some 49, (Op.move (Operand.tmp 1)), none⟩,
        ⟨some 50, (Op.move (Operand.tmp 8)), none⟩,
        ⟨some 51, (Op.indexAddr 22 (Operand.tmp 49) (Operand.tmp 50)), none⟩,
        ⟨some 52, (Op.load 3 (Operand.tmp 51)), none⟩,
        ⟨some 53, (Op.move (Operand.tmp 1)), none⟩,
        ⟨some 54, (Op.move (Operand.tmp 7)), none⟩,
        ⟨some 55, (Op.indexAddr 22 (Operand.tmp 53) (Operand.tmp 54)), none⟩,
        ⟨some 56, (Op.load 3 (Operand.tmp 55)), none⟩,
        ⟨some 57, (Op.binOp BinOp.eql 3 (Operand.tmp 52) (Operand.tmp 56) 3), none⟩])
      (.cond (Operand.tmp 57)
        (.seq (.reg false [⟨some 6, (Op.assign (Operand.const (Value.bool false))), none⟩])
        .ret)
        .skip)))
      (.reg false [⟨some 47, (Op.move (Operand.tmp 8)), none⟩,
        ⟨some 48, (Op.binOp BinOp.add 3 (Operand.tmp 47) (Operand.const (Value.int IntKind.i64 1)) 3), none⟩,
        ⟨some 8, (Op.assign (Operand.tmp 48)), none⟩])))))))))
    (.reg false [⟨some 58, (Op.binOp BinOp.add 3 (Operand.tmp 20) (Operand.const (Value.int IntKind.i64 1)) 3), none⟩,
      ⟨some 20, (Op.move (Operand.tmp 58)), none⟩])))))))
  (.seq (.reg false [⟨some 6, (Op.assign (Operand.const (Value.bool true))), none⟩])
  .ret))))
noncomputable def b58 : Code := Try.f58.body.getD .skip
theorem hb58 : Try.f58.body = some b58 := by kernel_rfl
theorem sh58 : shortC A58 b58 = c58 := by kernel_rfl
theorem ok58 : (okSlots Try.f58.ntmps b58 && okRecs A58 b58) = true := by kernel_rfl
def rs58 : List ResultVar := [(ResultVar.tmp 6)]
theorem hr58 : Try.f58.results.toList = rs58 := by kernel_rfl

/-! parquetry/parquetryref14.Parts (2 parameters; calls 56 parquetry/parquetryref14.Right, 58 parquetry/parquetryref14.Spec) -/
def A59 : Ann := { live := fun i => if i = 5 then [0, 1, 5, 20, 21] else [], drop := fun i => false }
noncomputable def c59 : Cc :=
  (.seq (.reg false [⟨some 4, (Op.assign (Operand.const (Value.slice none 0 0))), none⟩])
  (.seq (.seq (.reg false [⟨some 8, (Op.move (Operand.tmp 0)), none⟩,
    ⟨some 9, (Op.call { callee := (Callee.value (Operand.func 56)), args := #[(Operand.tmp 8)], argTypes := #[22] }), none⟩,
    ⟨some 10, (Op.unOp UnOp.not 4 (Operand.tmp 9)), none⟩,
    ⟨some 11, (Op.move (Operand.tmp 10)), none⟩,
    ⟨some 12, (Op.move (Operand.tmp 0)), some (11, false)⟩,
    ⟨some 13, (Op.move (Operand.tmp 1)), some (11, false)⟩,
    ⟨some 14, (Op.move (Operand.tmp 1)), some (11, false)⟩,
    ⟨some 15, (Op.call { callee := (Callee.builtin Builtin.len), args := #[(Operand.tmp 14)], argTypes := #[22] }), some (11, false)⟩,
    ⟨some 16, (Op.call { callee := (Callee.value (Operand.func 58)), args := #[(Operand.tmp 12), (Operand.tmp 13), (Operand.tmp 15)], argTypes := #[22, 22, 3] }), some (11, false)⟩,
    ⟨some 17, (Op.unOp UnOp.not 4 (Operand.tmp 16)), some (11, false)⟩,
    ⟨some 18, (Op.pick (Operand.tmp 11) (Operand.const (Value.bool true)) (Operand.tmp 17)), none⟩])
  (.cond (Operand.tmp 18)
    (.seq (.reg false [⟨some 4, (Op.assign (Operand.const (Value.slice none 0 0))), none⟩])
    .ret)
    .skip))
  (.seq (.reg false [⟨some 5, (Op.assign (Operand.const (Value.slice none 0 0))), none⟩])
  (.seq (.seq (.reg false [⟨some 19, (Op.move (Operand.tmp 1)), none⟩,
    ⟨some 20, (Op.call { callee := (Callee.builtin Builtin.len), args := #[(Operand.tmp 19)], argTypes := #[22] }), none⟩,
    ⟨some 21, (Op.move (Operand.const (Value.int IntKind.i64 0))), none⟩])
  (.block 0 (.loop [0, 1, 5, 20, 21] false
    (.seq (.reg false [⟨some 22, (Op.binOp BinOp.lss 3 (Operand.tmp 21) (Operand.tmp 20) 3), none⟩])
    (.seq (.cond (Operand.tmp 22)
      .skip
      (.exit 0))
    (.seq (.block 1 (.seq (.reg false [⟨some 23, (Op.move (Operand.tmp 21)), none⟩,
      ⟨some 6, (Op.assign (Operand.tmp 23)), none⟩])
    (.seq (.reg false [⟨some 7, (Op.assign (Operand.const (Value.int IntKind.i64 1))), none⟩])
    (.seq (.seq (.reg false [⟨some 24, (Op.move (Operand.tmp 1)), none⟩,
      ⟨some 25, (Op.move (Operand.tmp 6)), none⟩,
      ⟨some 26, (Op.indexAddr 22 (Operand.tmp 24) (Operand.tmp 25)), none⟩,
      ⟨some 27, (Op.load 3 (Operand.tmp 26)), none⟩,
      ⟨some 28, (Op.binOp BinOp.geq 3 (Operand.tmp 27) (Operand.const (Value.int IntKind.i64 0)) 3), none⟩])
    (.cond (Operand.tmp 28)
      (.reg false [⟨some 29, (Op.move (Operand.tmp 0)), none⟩,
        ⟨some 30, (Op.move (Operand.tmp 1)), none⟩,
        ⟨some 31, (Op.move (Operand.tmp 6)), none⟩,
        ⟨some 32, (Op.indexAddr 22 (Operand.tmp 30) (Operand.tmp 31)), none⟩,
        ⟨some 33, (Op.load 3 (Operand.tmp 32)), none⟩,
        ⟨some 34, (Op.indexAddr 22 (Operand.tmp 29) (Operand.tmp 33)), none⟩,
        ⟨some 35, (Op.load 3 (Operand.tmp 34)), none⟩,
        ⟨some 7, (Op.assign (Operand.tmp 35)), none⟩])
      .skip))
    (.reg false [⟨some 36, (Op.move (Operand.tmp 5)), none⟩,
      ⟨some 37, (Op.move (Operand.tmp 7)), none⟩,
      ⟨some 38, (Op.buildSlice 22 1 #[(0, (Operand.tmp 37))]), none⟩,
      ⟨some 39, (Op.call { callee := (Callee.builtin Builtin.append), args := #[(Operand.tmp 36), (Operand.tmp 38)], argTypes := #[22, 22] }), none⟩,
      ⟨some 5, (Op.assign (Operand.tmp 39)), none⟩])))))
    (.reg false [⟨some 40, (Op.binOp BinOp.add 3 (Operand.tmp 21) (Operand.const (Value.int IntKind.i64 1)) 3), none⟩,
      ⟨some 21, (Op.move (Operand.tmp 40)), none⟩])))))))
  (.seq (.reg false [⟨some 41, (Op.move (Operand.tmp 5)), none⟩,
    ⟨some 4, (Op.assign (Operand.tmp 41)), none⟩])
  .ret)))))
noncomputable def b59 : Code := Try.f59.body.getD .skip
theorem hb59 : Try.f59.body = some b59 := by kernel_rfl
theorem sh59 : shortC A59 b59 = c59 := by kernel_rfl
theorem ok59 : (okSlots Try.f59.ntmps b59 && okRecs A59 b59) = true := by kernel_rfl
def rs59 : List ResultVar := [(ResultVar.tmp 4)]
theorem hr59 : Try.f59.results.toList = rs59 := by kernel_rfl

/-! parquetry/parquetryref14.Copies (2 parameters; calls 20 parquetry/parquetryref14.Devices, 56 parquetry/parquetryref14.Right, 58 parquetry/parquetryref14.Spec, 59 parquetry/parquetryref14.Parts) -/
def A23 : Ann := { live := fun i => if i = 5 then [5, 23, 24, 25] else [], drop := fun i => false }
noncomputable def c23 : Cc :=
  (.seq (.reg false [⟨some 4, (Op.assign (Operand.const (Value.int IntKind.i64 0))), none⟩])
  (.seq (.seq (.reg false [⟨some 8, (Op.move (Operand.tmp 0)), none⟩,
    ⟨some 9, (Op.call { callee := (Callee.value (Operand.func 56)), args := #[(Operand.tmp 8)], argTypes := #[22] }), none⟩,
    ⟨some 10, (Op.unOp UnOp.not 4 (Operand.tmp 9)), none⟩,
    ⟨some 11, (Op.move (Operand.tmp 10)), none⟩,
    ⟨some 12, (Op.move (Operand.tmp 0)), some (11, false)⟩,
    ⟨some 13, (Op.move (Operand.tmp 1)), some (11, false)⟩,
    ⟨some 14, (Op.move (Operand.tmp 1)), some (11, false)⟩,
    ⟨some 15, (Op.call { callee := (Callee.builtin Builtin.len), args := #[(Operand.tmp 14)], argTypes := #[22] }), some (11, false)⟩,
    ⟨some 16, (Op.call { callee := (Callee.value (Operand.func 58)), args := #[(Operand.tmp 12), (Operand.tmp 13), (Operand.tmp 15)], argTypes := #[22, 22, 3] }), some (11, false)⟩,
    ⟨some 17, (Op.unOp UnOp.not 4 (Operand.tmp 16)), some (11, false)⟩,
    ⟨some 18, (Op.pick (Operand.tmp 11) (Operand.const (Value.bool true)) (Operand.tmp 17)), none⟩])
  (.cond (Operand.tmp 18)
    (.seq (.reg false [⟨some 4, (Op.assign (Operand.const (Value.int IntKind.i64 0))), none⟩])
    .ret)
    .skip))
  (.seq (.reg false [⟨some 19, (Op.move (Operand.tmp 0)), none⟩,
    ⟨some 20, (Op.call { callee := (Callee.value (Operand.func 20)), args := #[(Operand.tmp 19)], argTypes := #[22] }), none⟩,
    ⟨some 5, (Op.assign (Operand.tmp 20)), none⟩])
  (.seq (.seq (.reg false [⟨some 21, (Op.move (Operand.tmp 0)), none⟩,
    ⟨some 22, (Op.move (Operand.tmp 1)), none⟩,
    ⟨some 23, (Op.call { callee := (Callee.value (Operand.func 59)), args := #[(Operand.tmp 21), (Operand.tmp 22)], argTypes := #[22, 22] }), none⟩,
    ⟨some 24, (Op.call { callee := (Callee.builtin Builtin.len), args := #[(Operand.tmp 23)], argTypes := #[22] }), none⟩,
    ⟨some 25, (Op.move (Operand.const (Value.int IntKind.i64 0))), none⟩])
  (.block 0 (.loop [5, 23, 24, 25] false
    (.seq (.reg false [⟨some 26, (Op.binOp BinOp.lss 3 (Operand.tmp 25) (Operand.tmp 24) 3), none⟩])
    (.seq (.cond (Operand.tmp 26)
      .skip
      (.exit 0))
    (.seq (.block 1 (.seq (.reg false [⟨some 27, (Op.indexAddr 22 (Operand.tmp 23) (Operand.tmp 25)), none⟩,
      ⟨some 28, (Op.load 3 (Operand.tmp 27)), none⟩,
      ⟨some 7, (Op.assign (Operand.tmp 28)), none⟩])
    (.reg false [⟨some 29, (Op.move (Operand.tmp 5)), none⟩,
      ⟨some 30, (Op.move (Operand.tmp 7)), none⟩,
      ⟨some 31, (Op.binOp BinOp.quo 3 (Operand.tmp 29) (Operand.tmp 30) 3), none⟩,
      ⟨some 5, (Op.assign (Operand.tmp 31)), none⟩])))
    (.reg false [⟨some 32, (Op.binOp BinOp.add 3 (Operand.tmp 25) (Operand.const (Value.int IntKind.i64 1)) 3), none⟩,
      ⟨some 25, (Op.move (Operand.tmp 32)), none⟩])))))))
  (.seq (.reg false [⟨some 33, (Op.move (Operand.tmp 5)), none⟩,
    ⟨some 4, (Op.assign (Operand.tmp 33)), none⟩])
  .ret)))))
noncomputable def b23 : Code := Try.f23.body.getD .skip
theorem hb23 : Try.f23.body = some b23 := by kernel_rfl
theorem sh23 : shortC A23 b23 = c23 := by kernel_rfl
theorem ok23 : (okSlots Try.f23.ntmps b23 && okRecs A23 b23) = true := by kernel_rfl
def rs23 : List ResultVar := [(ResultVar.tmp 4)]
theorem hr23 : Try.f23.results.toList = rs23 := by kernel_rfl


end Go.Proofs.Ytokadkakmhfdeaa.Pq
