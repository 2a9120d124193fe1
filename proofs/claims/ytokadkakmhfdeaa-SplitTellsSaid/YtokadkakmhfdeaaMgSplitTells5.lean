/- What the proof of a statement of this seat rests on, part 5: PqC8, PqC9, PqWO, PqWP, PqWQ, PqWR, PqWS, PqWT, PqTt, PqX6, PqWU, PqX7, PqTl, PqCA, PqWV. -/
import Derived.Test.YtokadkakmhfdeaaMgSplitTells4
set_option linter.unusedVariables false
set_option linter.unusedSimpArgs false
set_option linter.unusedSectionVars false
namespace Go.Proofs.Ytokadkakmhfdeaa.Pq
open Go.RowKit
/- Functions in short form. -/
/-! parquetry/parquetrylaw17.made (1 parameters; calls 16 (*parquetry/parquetrykeep.Tape).Next, 17 (*parquetry/parquetrykeep.Tape).Shape, 18 (*parquetry/parquetrykeep.Tape).Spec, 80 (*parquetry/parquetrykeep.Tape).Tensor) -/
def A31 : Ann := { recs := fun i => if i = 4 then [(0, 8), (1, 8), (1, 9)] else [], drop := fun i => false }
noncomputable def c31 : Cc :=
  (.seq (.reg false [⟨some 2, (Op.alloc 40), none⟩,
    ⟨some 3, (Op.assign (Operand.const (Value.slice none 0 0))), none⟩,
    ⟨some 4, (Op.assign (Operand.const (Value.slice none 0 0))), none⟩])
  (.seq (.reg false [⟨some 8, (Op.move (Operand.tmp 0)), none⟩,
    ⟨some 9, (Op.build 25 #[(0, (Operand.tmp 8))]), none⟩,
    ⟨some 10, (Op.box 25 (Operand.tmp 9)), none⟩,
    ⟨some 5, (Op.assign (Operand.tmp 10)), none⟩])
  (.seq (.reg false [⟨some 11, (Op.buildSlice 22 1 #[(0, (Operand.const (Value.int IntKind.i64 2)))]), none⟩,
    ⟨some 12, (Op.buildSlice 22 2 #[(0, (Operand.const (Value.int IntKind.i64 2))), (1, (Operand.const (Value.int IntKind.i64 4)))]), none⟩,
    ⟨some 13, (Op.buildSlice 22 2 #[(0, (Operand.const (Value.int IntKind.i64 3))), (1, (Operand.const (Value.int IntKind.i64 2)))]), none⟩,
    ⟨some 14, (Op.buildSlice 22 3 #[(0, (Operand.const (Value.int IntKind.i64 2))), (1, (Operand.const (Value.int IntKind.i64 2))), (2, (Operand.const (Value.int IntKind.i64 2)))]), none⟩,
    ⟨some 15, (Op.buildSlice 22 0 #[]), none⟩,
    ⟨some 16, (Op.buildSlice 22 1 #[(0, (Operand.const (Value.int IntKind.i64 5)))]), none⟩,
    ⟨some 17, (Op.buildSlice 22 2 #[(0, (Operand.const (Value.int IntKind.i64 2))), (1, (Operand.const (Value.int IntKind.i64 2)))]), none⟩,
    ⟨some 18, (Op.buildSlice 26 7 #[(0, (Operand.tmp 11)), (1, (Operand.tmp 12)), (2, (Operand.tmp 13)), (3, (Operand.tmp 14)), (4, (Operand.tmp 15)), (5, (Operand.tmp 16)), (6, (Operand.tmp 17))]), none⟩,
    ⟨some 19, (Op.move (Operand.tmp 5)), none⟩,
    ⟨some 20, (Op.call { callee := (Callee.value (Operand.func 16)), args := #[(Operand.tmp 19), (Operand.const (Value.int IntKind.i64 7))], argTypes := #[23, 3] }), none⟩,
    ⟨some 21, (Op.indexAddr 26 (Operand.tmp 18) (Operand.tmp 20)), none⟩,
    ⟨some 22, (Op.load 22 (Operand.tmp 21)), none⟩,
    ⟨some 6, (Op.assign (Operand.tmp 22)), none⟩])
  (.seq (.reg false [⟨some 23, (Op.move (Operand.tmp 5)), none⟩,
    ⟨some 24, (Op.move (Operand.tmp 5)), none⟩,
    ⟨some 25, (Op.call { callee := (Callee.value (Operand.func 17)), args := #[(Operand.tmp 24)], argTypes := #[23] }), none⟩,
    ⟨some 26, (Op.call { callee := (Callee.value (Operand.func 80)), args := #[(Operand.tmp 23), (Operand.tmp 25)], argTypes := #[23, 22] }), none⟩,
    ⟨some 7, (Op.alloc 40), none⟩,
    ⟨none, (Op.store 40 (Operand.tmp 7) (Operand.tmp 26)), none⟩])
  (.seq (.drw false [⟨some 27, (Op.load 40 (Operand.tmp 7)), none⟩,
    ⟨some 28, (Op.move (Operand.tmp 6)), none⟩,
    ⟨some 29, (Op.move (Operand.tmp 5)), none⟩,
    ⟨some 30, (Op.move (Operand.tmp 6)), none⟩,
    ⟨some 31, (Op.fieldAddr 40 (Operand.tmp 7) 0), none⟩,
    ⟨some 32, (Op.load 22 (Operand.tmp 31)), none⟩,
    ⟨some 33, (Op.call { callee := (Callee.builtin Builtin.len), args := #[(Operand.tmp 32)], argTypes := #[22] }), none⟩,
    ⟨some 34, (Op.call { callee := (Callee.value (Operand.func 18)), args := #[(Operand.tmp 29), (Operand.tmp 30), (Operand.tmp 33)], argTypes := #[23, 22, 3] }), none⟩,
    ⟨none, (Op.store 40 (Operand.tmp 2) (Operand.tmp 27)), none⟩,
    ⟨some 3, (Op.assign (Operand.tmp 28)), none⟩,
    ⟨some 4, (Op.assign (Operand.tmp 34)), none⟩] [(0, 8)])
  .ret)))))
noncomputable def b31 : Code := Try.f31.body.getD .skip
theorem hb31 : Try.f31.body = some b31 := by kernel_rfl
theorem sh31 : shortC A31 b31 = c31 := by kernel_rfl
def rs31 : List ResultVar := [(ResultVar.cell 2 40), (ResultVar.tmp 3), (ResultVar.tmp 4)]
theorem hr31 : Try.f31.results.toList = rs31 := by kernel_rfl
/-! parquetry/axes.Sliced (3 parameters; calls none) -/
def A160 : Ann := { live := fun i => if i = 4 then [1, 2, 21, 22, 23] else [], drop := fun i => false }
noncomputable def c160 : Cc :=
  (.seq (.reg false [⟨some 6, (Op.assign (Operand.const (Value.int IntKind.i64 0))), none⟩])
  (.seq (.seq (.reg false [⟨some 9, (Op.move (Operand.tmp 1)), none⟩,
    ⟨some 10, (Op.call { callee := (Callee.builtin Builtin.len), args := #[(Operand.tmp 9)], argTypes := #[22] }), none⟩,
    ⟨some 11, (Op.move (Operand.tmp 0)), none⟩,
    ⟨some 12, (Op.call { callee := (Callee.builtin Builtin.len), args := #[(Operand.tmp 11)], argTypes := #[22] }), none⟩,
    ⟨some 13, (Op.binOp BinOp.neq 3 (Operand.tmp 10) (Operand.tmp 12) 3), none⟩,
    ⟨some 14, (Op.move (Operand.tmp 13)), none⟩,
    ⟨some 15, (Op.move (Operand.tmp 2)), some (14, false)⟩,
    ⟨some 16, (Op.call { callee := (Callee.builtin Builtin.len), args := #[(Operand.tmp 15)], argTypes := #[22] }), some (14, false)⟩,
    ⟨some 17, (Op.move (Operand.tmp 0)), some (14, false)⟩,
    ⟨some 18, (Op.call { callee := (Callee.builtin Builtin.len), args := #[(Operand.tmp 17)], argTypes := #[22] }), some (14, false)⟩,
    ⟨some 19, (Op.binOp BinOp.neq 3 (Operand.tmp 16) (Operand.tmp 18) 3), some (14, false)⟩,
    ⟨some 20, (Op.pick (Operand.tmp 14) (Operand.const (Value.bool true)) (Operand.tmp 19)), none⟩])
  (.cond (Operand.tmp 20)
    (.seq (.reg false [⟨some 6, (Op.assign (Operand.const (Value.int IntKind.i64 1))), none⟩])
    .ret)
    .skip))
  (.seq (.seq (.reg false [⟨some 21, (Op.move (Operand.tmp 0)), none⟩,
    ⟨some 22, (Op.call { callee := (Callee.builtin Builtin.len), args := #[(Operand.tmp 21)], argTypes := #[22] }), none⟩,
    ⟨some 23, (Op.move (Operand.const (Value.int IntKind.i64 0))), none⟩])
  (.block 0 (.loop [1, 2, 21, 22, 23] false
    (.seq (.reg false [⟨some 24, (Op.binOp BinOp.lss 3 (Operand.tmp 23) (Operand.tmp 22) 3), none⟩])
    (.seq (.cond (Operand.tmp 24)
      .skip
      (.exit 0))
    (.seq (.block 1 (.seq (.reg false [⟨some 25, (Op.move (Operand.tmp 23)), none⟩,
      ⟨some 26, (Op.indexAddr 22 (Operand.tmp 21) (Operand.tmp 23)), none⟩,
      ⟨some 27, (Op.load 3 (Operand.tmp 26)), none⟩,
      ⟨some 7, (Op.assign (Operand.tmp 25)), none⟩,
      ⟨some 8, (Op.assign (Operand.tmp 27)), none⟩])
    (.seq (.reg false [⟨some 28, (Op.move (Operand.tmp 1)), none⟩,
      ⟨some 29, (Op.move (Operand.tmp 7)), none⟩,
      ⟨some 30, (Op.indexAddr 22 (Operand.tmp 28) (Operand.tmp 29)), none⟩,
      ⟨some 31, (Op.load 3 (Operand.tmp 30)), none⟩,
      ⟨some 32, (Op.binOp BinOp.lss 3 (Operand.tmp 31) (Operand.const (Value.int IntKind.i64 0)) 3), none⟩,
      ⟨some 33, (Op.move (Operand.tmp 32)), none⟩,
      ⟨some 34, (Op.move (Operand.tmp 1)), some (33, false)⟩,
      ⟨some 35, (Op.move (Operand.tmp 7)), some (33, false)⟩,
      ⟨some 36, (Op.indexAddr 22 (Operand.tmp 34) (Operand.tmp 35)), some (33, false)⟩,
      ⟨some 37, (Op.load 3 (Operand.tmp 36)), some (33, false)⟩,
      ⟨some 38, (Op.move (Operand.tmp 8)), some (33, false)⟩,
      ⟨some 39, (Op.binOp BinOp.gtr 3 (Operand.tmp 37) (Operand.tmp 38) 3), some (33, false)⟩,
      ⟨some 40, (Op.pick (Operand.tmp 33) (Operand.const (Value.bool true)) (Operand.tmp 39)), none⟩,
      ⟨some 41, (Op.move (Operand.tmp 40)), none⟩,
      ⟨some 42, (Op.move (Operand.tmp 2)), some (41, false)⟩,
      ⟨some 43, (Op.move (Operand.tmp 7)), some (41, false)⟩,
      ⟨some 44, (Op.indexAddr 22 (Operand.tmp 42) (Operand.tmp 43)), some (41, false)⟩,
      ⟨some 45, (Op.load 3 (Operand.tmp 44)), some (41, false)⟩,
      ⟨some 46, (Op.binOp BinOp.lss 3 (Operand.tmp 45) (Operand.const (Value.int IntKind.i64 0)) 3), some (41, false)⟩,
      ⟨some 47, (Op.pick (Operand.tmp 41) (Operand.const (Value.bool true)) (Operand.tmp 46)), none⟩,
      ⟨some 48, (Op.move (Operand.tmp 47)), none⟩,
      ⟨some 49, (Op.move (Operand.tmp 2)), some (48, false)⟩,
      ⟨some 50, (Op.move (Operand.tmp 7)), some (48, false)⟩,
      ⟨some 51, (Op.indexAddr 22 (Operand.tmp 49) (Operand.tmp 50)), some (48, false)⟩,
      ⟨some 52, (Op.load 3 (Operand.tmp 51)), some (48, false)⟩,
      ⟨some 53, (Op.move (Operand.tmp 8)), some (48, false)⟩,
      ⟨some 54, (Op.move (Operand.tmp 1)), some (48, false)⟩,
      ⟨some 55, (Op.move (Operand.tmp 7)), some (48, false)⟩,
      ⟨some 56, (Op.indexAddr 22 (Operand.tmp 54) (Operand.tmp 55)), some (48, false)⟩,
      ⟨some 57, (Op.load 3 (Operand.tmp 56)), some (48, false)⟩,
      ⟨some 58, (Op.binOp BinOp.sub 3 (Operand.tmp 53) (Operand.tmp 57) 3), some (48, false)⟩,
      ⟨some 59, (Op.binOp BinOp.gtr 3 (Operand.tmp 52) (Operand.tmp 58) 3), some (48, false)⟩,
      ⟨some 60, (Op.pick (Operand.tmp 48) (Operand.const (Value.bool true)) (Operand.tmp 59)), none⟩])
    (.cond (Operand.tmp 60)
      (.seq (.reg false [⟨some 6, (Op.assign (Operand.const (Value.int IntKind.i64 1))), none⟩])
      .ret)
      .skip))))
    (.reg false [⟨some 61, (Op.binOp BinOp.add 3 (Operand.tmp 23) (Operand.const (Value.int IntKind.i64 1)) 3), none⟩,
      ⟨some 23, (Op.move (Operand.tmp 61)), none⟩])))))))
  (.seq (.reg false [⟨some 6, (Op.assign (Operand.const (Value.int IntKind.i64 0))), none⟩])
  .ret))))
noncomputable def b160 : Code := Try.f160.body.getD .skip
theorem hb160 : Try.f160.body = some b160 := by kernel_rfl
theorem sh160 : shortC A160 b160 = c160 := by kernel_rfl
def rs160 : List ResultVar := [(ResultVar.tmp 6)]
theorem hr160 : Try.f160.results.toList = rs160 := by kernel_rfl
/-! parquetry/axes.Slice$1 (1 parameters; calls 162 parquetry/axes.at) -/
def A161 : Ann := { live := fun i => if i = 2 then [0, 2, 7, 8, 9] else [], drop := fun i => false }
noncomputable def c161 : Cc :=
  (.seq (.reg false [⟨some 4, (Op.assign (Operand.const (Value.int IntKind.i64 0))), none⟩])
  (.seq (.seq (.reg false [⟨some 7, (Op.load 22 (Operand.tmp 1)), none⟩,
    ⟨some 8, (Op.call { callee := (Callee.builtin Builtin.len), args := #[(Operand.tmp 7)], argTypes := #[22] }), none⟩,
    ⟨some 9, (Op.move (Operand.const (Value.int IntKind.i64 0))), none⟩])
  (.block 0 (.loop [0, 2, 7, 8, 9] false
    (.seq (.reg false [⟨some 10, (Op.binOp BinOp.lss 3 (Operand.tmp 9) (Operand.tmp 8) 3), none⟩])
    (.seq (.cond (Operand.tmp 10)
      .skip
      (.exit 0))
    (.seq (.block 1 (.seq (.reg false [⟨some 11, (Op.move (Operand.tmp 9)), none⟩,
      ⟨some 12, (Op.indexAddr 22 (Operand.tmp 7) (Operand.tmp 9)), none⟩,
      ⟨some 13, (Op.load 3 (Operand.tmp 12)), none⟩,
      ⟨some 5, (Op.assign (Operand.tmp 11)), none⟩,
      ⟨some 6, (Op.assign (Operand.tmp 13)), none⟩])
    (.reg false [⟨some 14, (Op.move (Operand.tmp 0)), none⟩,
      ⟨some 15, (Op.move (Operand.tmp 5)), none⟩,
      ⟨some 16, (Op.indexAddr 22 (Operand.tmp 14) (Operand.tmp 15)), none⟩,
      ⟨some 17, (Op.load 3 (Operand.tmp 16)), none⟩,
      ⟨some 18, (Op.move (Operand.tmp 6)), none⟩,
      ⟨some 19, (Op.binOp BinOp.add 3 (Operand.tmp 17) (Operand.tmp 18) 3), none⟩,
      ⟨some 20, (Op.indexAddr 22 (Operand.tmp 14) (Operand.tmp 15)), none⟩,
      ⟨none, (Op.store 3 (Operand.tmp 20) (Operand.tmp 19)), none⟩])))
    (.reg false [⟨some 21, (Op.binOp BinOp.add 3 (Operand.tmp 9) (Operand.const (Value.int IntKind.i64 1)) 3), none⟩,
      ⟨some 9, (Op.move (Operand.tmp 21)), none⟩])))))))
  (.seq (.reg false [⟨some 22, (Op.load 40 (Operand.tmp 2)), none⟩,
    ⟨some 23, (Op.move (Operand.tmp 0)), none⟩,
    ⟨some 24, (Op.call { callee := (Callee.value (Operand.func 162)), args := #[(Operand.tmp 22), (Operand.tmp 23)], argTypes := #[40, 22] }), none⟩,
    ⟨some 4, (Op.assign (Operand.tmp 24)), none⟩])
  .ret)))
noncomputable def b161 : Code := Try.f161.body.getD .skip
theorem hb161 : Try.f161.body = some b161 := by kernel_rfl
theorem sh161 : shortC A161 b161 = c161 := by kernel_rfl
def rs161 : List ResultVar := [(ResultVar.tmp 4)]
theorem hr161 : Try.f161.results.toList = rs161 := by kernel_rfl
/-! parquetry/axes.Slice (3 parameters; calls 91 parquetry/tensor.Right, 138 parquetry/tensor.Made, 160 parquetry/axes.Sliced) -/
def A134 : Ann := { drop := fun i => false }
noncomputable def c134 : Cc :=
  (.seq (.reg false [⟨some 3, (Op.box 40 (Operand.tmp 0)), none⟩,
    ⟨some 4, (Op.box 22 (Operand.tmp 1)), none⟩,
    ⟨some 6, (Op.alloc 40), none⟩,
    ⟨some 7, (Op.assign (Operand.const (Value.int IntKind.i64 0))), none⟩])
  (.seq (.seq (.reg false [⟨some 9, (Op.load 40 (Operand.tmp 3)), none⟩,
    ⟨some 10, (Op.call { callee := (Callee.value (Operand.func 91)), args := #[(Operand.tmp 9)], argTypes := #[40] }), none⟩,
    ⟨some 11, (Op.unOp UnOp.not 4 (Operand.tmp 10)), none⟩])
  (.cond (Operand.tmp 11)
    (.seq (.reg false [⟨some 12, (Op.build 40 #[]), none⟩,
      ⟨none, (Op.store 40 (Operand.tmp 6) (Operand.tmp 12)), none⟩,
      ⟨some 7, (Op.assign (Operand.const (Value.int IntKind.i64 13))), none⟩])
    .ret)
    .skip))
  (.seq (.seq (.reg false [⟨some 13, (Op.fieldAddr 40 (Operand.tmp 3) 0), none⟩,
    ⟨some 14, (Op.load 22 (Operand.tmp 13)), none⟩,
    ⟨some 15, (Op.load 22 (Operand.tmp 4)), none⟩,
    ⟨some 16, (Op.move (Operand.tmp 2)), none⟩,
    ⟨some 17, (Op.call { callee := (Callee.value (Operand.func 160)), args := #[(Operand.tmp 14), (Operand.tmp 15), (Operand.tmp 16)], argTypes := #[22, 22, 22] }), none⟩,
    ⟨some 8, (Op.assign (Operand.tmp 17)), none⟩])
  (.seq (.reg false [⟨some 18, (Op.move (Operand.tmp 8)), none⟩,
    ⟨some 19, (Op.binOp BinOp.neq 46 (Operand.tmp 18) (Operand.const (Value.int IntKind.i64 0)) 46), none⟩])
  (.cond (Operand.tmp 19)
    (.seq (.reg false [⟨some 20, (Op.build 40 #[]), none⟩,
      ⟨some 21, (Op.move (Operand.tmp 8)), none⟩,
      ⟨none, (Op.store 40 (Operand.tmp 6) (Operand.tmp 20)), none⟩,
      ⟨some 7, (Op.assign (Operand.tmp 21)), none⟩])
    .ret)
    .skip)))
  (.seq (.reg false [⟨some 22, (Op.move (Operand.tmp 2)), none⟩,
    ⟨some 23, (Op.makeFunc (Fn.func 161) #[] #[(Operand.tmp 4), (Operand.tmp 3)]), none⟩,
    ⟨some 24, (Op.call { callee := (Callee.value (Operand.func 138)), args := #[(Operand.tmp 22), (Operand.tmp 23)], argTypes := #[22, 147] }), none⟩,
    ⟨none, (Op.store 40 (Operand.tmp 6) (Operand.tmp 24)), none⟩,
    ⟨some 7, (Op.assign (Operand.const (Value.int IntKind.i64 0))), none⟩])
  .ret))))
noncomputable def b134 : Code := Try.f134.body.getD .skip
theorem hb134 : Try.f134.body = some b134 := by kernel_rfl
theorem sh134 : shortC A134 b134 = c134 := by kernel_rfl
def rs134 : List ResultVar := [(ResultVar.cell 6 40), (ResultVar.tmp 7)]
theorem hr134 : Try.f134.results.toList = rs134 := by kernel_rfl
/-! parquetry/split.Part (4 parameters; calls 21 parquetry/tile.Size, 22 parquetry/tile.From, 87 parquetry/split.may, 88 parquetry/mesh.Devices, 134 parquetry/axes.Slice) -/
def A81 : Ann := { recs := fun i => if i = 6 then [(0, 7), (0, 13), (7, 6), (8, 6), (9, 6), (10, 6), (11, 6)] else [], drop := fun i => false }
noncomputable def c81 : Cc :=
  (.seq (.reg false [⟨some 4, (Op.box 40 (Operand.tmp 0)), none⟩,
    ⟨some 8, (Op.alloc 40), none⟩,
    ⟨some 9, (Op.assign (Operand.const (Value.int IntKind.i64 0))), none⟩])
  (.seq (.seq (.reg false [⟨some 11, (Op.load 40 (Operand.tmp 4)), none⟩,
    ⟨some 12, (Op.move (Operand.tmp 1)), none⟩,
    ⟨some 13, (Op.move (Operand.tmp 2)), none⟩,
    ⟨some 14, (Op.call { callee := (Callee.value (Operand.func 87)), args := #[(Operand.tmp 11), (Operand.tmp 12), (Operand.tmp 13)], argTypes := #[40, 22, 22] }), none⟩,
    ⟨some 10, (Op.assign (Operand.tmp 14)), none⟩])
  (.seq (.reg false [⟨some 15, (Op.move (Operand.tmp 10)), none⟩,
    ⟨some 16, (Op.binOp BinOp.neq 46 (Operand.tmp 15) (Operand.const (Value.int IntKind.i64 0)) 46), none⟩])
  (.cond (Operand.tmp 16)
    (.seq (.reg false [⟨some 17, (Op.build 40 #[]), none⟩,
      ⟨some 18, (Op.move (Operand.tmp 10)), none⟩,
      ⟨none, (Op.store 40 (Operand.tmp 8) (Operand.tmp 17)), none⟩,
      ⟨some 9, (Op.assign (Operand.tmp 18)), none⟩])
    .ret)
    .skip)))
  (.seq (.seq (.reg false [⟨some 19, (Op.move (Operand.tmp 3)), none⟩,
    ⟨some 20, (Op.binOp BinOp.lss 3 (Operand.tmp 19) (Operand.const (Value.int IntKind.i64 0)) 3), none⟩,
    ⟨some 21, (Op.move (Operand.tmp 20)), none⟩,
    ⟨some 22, (Op.move (Operand.tmp 3)), some (21, false)⟩,
    ⟨some 23, (Op.move (Operand.tmp 1)), some (21, false)⟩,
    ⟨some 24, (Op.call { callee := (Callee.value (Operand.func 88)), args := #[(Operand.tmp 23)], argTypes := #[22] }), some (21, false)⟩,
    ⟨some 25, (Op.binOp BinOp.geq 3 (Operand.tmp 22) (Operand.tmp 24) 3), some (21, false)⟩,
    ⟨some 26, (Op.pick (Operand.tmp 21) (Operand.const (Value.bool true)) (Operand.tmp 25)), none⟩])
  (.cond (Operand.tmp 26)
    (.seq (.reg false [⟨some 27, (Op.build 40 #[]), none⟩,
      ⟨none, (Op.store 40 (Operand.tmp 8) (Operand.tmp 27)), none⟩,
      ⟨some 9, (Op.assign (Operand.const (Value.int IntKind.i64 23))), none⟩])
    .ret)
    .skip))
  (.seq (.drw false [⟨some 28, (Op.load 40 (Operand.tmp 4)), none⟩,
    ⟨some 29, (Op.fieldAddr 40 (Operand.tmp 4) 0), none⟩,
    ⟨some 30, (Op.load 22 (Operand.tmp 29)), none⟩,
    ⟨some 31, (Op.move (Operand.tmp 1)), none⟩,
    ⟨some 32, (Op.move (Operand.tmp 2)), none⟩,
    ⟨some 33, (Op.move (Operand.tmp 3)), none⟩,
    ⟨some 34, (Op.call { callee := (Callee.value (Operand.func 22)), args := #[(Operand.tmp 30), (Operand.tmp 31), (Operand.tmp 32), (Operand.tmp 33)], argTypes := #[22, 22, 22, 3] }), none⟩,
    ⟨some 35, (Op.fieldAddr 40 (Operand.tmp 4) 0), none⟩,
    ⟨some 36, (Op.load 22 (Operand.tmp 35)), none⟩,
    ⟨some 37, (Op.move (Operand.tmp 1)), none⟩,
    ⟨some 38, (Op.move (Operand.tmp 2)), none⟩,
    ⟨some 39, (Op.move (Operand.tmp 3)), none⟩,
    ⟨some 40, (Op.call { callee := (Callee.value (Operand.func 21)), args := #[(Operand.tmp 36), (Operand.tmp 37), (Operand.tmp 38), (Operand.tmp 39)], argTypes := #[22, 22, 22, 3] }), none⟩,
    ⟨some 41, (Op.call { callee := (Callee.value (Operand.func 134)), args := #[(Operand.tmp 28), (Operand.tmp 34), (Operand.tmp 40)], argTypes := #[40, 22, 22] }), none⟩,
    ⟨some 42, (Op.extract (Operand.tmp 41) 0), none⟩,
    ⟨some 43, (Op.extract (Operand.tmp 41) 1), none⟩,
    ⟨none, (Op.store 40 (Operand.tmp 8) (Operand.tmp 42)), none⟩,
    ⟨some 9, (Op.assign (Operand.tmp 43)), none⟩] [(0, 7), (0, 13), (8, 6)])
  .ret))))
noncomputable def b81 : Code := Try.f81.body.getD .skip
theorem hb81 : Try.f81.body = some b81 := by kernel_rfl
theorem sh81 : shortC A81 b81 = c81 := by kernel_rfl
def rs81 : List ResultVar := [(ResultVar.cell 8 40), (ResultVar.tmp 9)]
theorem hr81 : Try.f81.results.toList = rs81 := by kernel_rfl
/-! parquetry/split.All (3 parameters; calls 81 parquetry/split.Part, 87 parquetry/split.may, 88 parquetry/mesh.Devices) -/
def A37 : Ann := { live := fun i => if i = 6 then [1, 2, 3, 9, 21, 22] else [], drop := fun i => false }
noncomputable def c37 : Cc :=
  (.seq (.reg false [⟨some 3, (Op.box 40 (Operand.tmp 0)), none⟩,
    ⟨some 6, (Op.assign (Operand.const (Value.slice none 0 0))), none⟩,
    ⟨some 7, (Op.assign (Operand.const (Value.int IntKind.i64 0))), none⟩])
  (.seq (.seq (.reg false [⟨some 13, (Op.load 40 (Operand.tmp 3)), none⟩,
    ⟨some 14, (Op.move (Operand.tmp 1)), none⟩,
    ⟨some 15, (Op.move (Operand.tmp 2)), none⟩,
    ⟨some 16, (Op.call { callee := (Callee.value (Operand.func 87)), args := #[(Operand.tmp 13), (Operand.tmp 14), (Operand.tmp 15)], argTypes := #[40, 22, 22] }), none⟩,
    ⟨some 8, (Op.assign (Operand.tmp 16)), none⟩])
  (.seq (.reg false [⟨some 17, (Op.move (Operand.tmp 8)), none⟩,
    ⟨some 18, (Op.binOp BinOp.neq 46 (Operand.tmp 17) (Operand.const (Value.int IntKind.i64 0)) 46), none⟩])
  (.cond (Operand.tmp 18)
    (.seq (.reg false [⟨some 19, (Op.move (Operand.tmp 8)), none⟩,
      ⟨some 6, (Op.assign (Operand.const (Value.slice none 0 0))), none⟩,
      ⟨some 7, (Op.assign (Operand.tmp 19)), none⟩])
    .ret)
    .skip)))
  (.seq (.reg false [⟨some 9, (Op.assign (Operand.const (Value.slice none 0 0))), none⟩])
  (.seq (.seq (.reg false [⟨some 20, (Op.move (Operand.tmp 1)), none⟩,
    ⟨some 21, (Op.call { callee := (Callee.value (Operand.func 88)), args := #[(Operand.tmp 20)], argTypes := #[22] }), none⟩,
    ⟨some 22, (Op.move (Operand.const (Value.int IntKind.i64 0))), none⟩])
  (.block 0 (.loop [1, 2, 3, 9, 21, 22] false
    (.seq (.reg false [⟨some 23, (Op.binOp BinOp.lss 3 (Operand.tmp 22) (Operand.tmp 21) 3), none⟩])
    (.seq (.cond (Operand.tmp 23)
      .skip
      (.exit 0))
    (.seq (.block 1 (.seq (.reg false [⟨some 24, (Op.move (Operand.tmp 22)), none⟩,
      ⟨some 10, (Op.assign (Operand.tmp 24)), none⟩])
    (.seq (.reg false [⟨some 26, (Op.load 40 (Operand.tmp 3)), none⟩,
      ⟨some 27, (Op.move (Operand.tmp 1)), none⟩,
      ⟨some 28, (Op.move (Operand.tmp 2)), none⟩,
      ⟨some 29, (Op.move (Operand.tmp 10)), none⟩,
      ⟨some 30, (Op.call { callee := (Callee.value (Operand.func 81)), args := #[(Operand.tmp 26), (Operand.tmp 27), (Operand.tmp 28), (Operand.tmp 29)], argTypes := #[40, 22, 22, 3] }), none⟩,
      ⟨some 25, (Op.move (Operand.tmp 30)), none⟩,
      ⟨some 31, (Op.extract (Operand.tmp 25) 0), none⟩,
      ⟨some 32, (Op.extract (Operand.tmp 25) 1), none⟩,
      ⟨some 11, (Op.alloc 40), none⟩,
      ⟨none, (Op.store 40 (Operand.tmp 11) (Operand.tmp 31)), none⟩,
      ⟨some 12, (Op.assign (Operand.tmp 32)), none⟩])
    (.seq (.seq (.reg false [⟨some 33, (Op.move (Operand.tmp 12)), none⟩,
      ⟨some 34, (Op.binOp BinOp.neq 46 (Operand.tmp 33) (Operand.const (Value.int IntKind.i64 0)) 46), none⟩])
    (.cond (Operand.tmp 34)
      (.seq (.reg false [⟨some 35, (Op.move (Operand.tmp 12)), none⟩,
        ⟨some 6, (Op.assign (Operand.const (Value.slice none 0 0))), none⟩,
        ⟨some 7, (Op.assign (Operand.tmp 35)), none⟩])
      .ret)
      .skip))
    (.reg false [⟨some 36, (Op.move (Operand.tmp 9)), none⟩,
      ⟨some 37, (Op.load 40 (Operand.tmp 11)), none⟩,
      ⟨some 38, (Op.buildSlice 45 1 #[(0, (Operand.tmp 37))]), none⟩,
      ⟨some 39, (Op.call { callee := (Callee.builtin Builtin.append), args := #[(Operand.tmp 36), (Operand.tmp 38)], argTypes := #[45, 45] }), none⟩,
      ⟨some 9, (Op.assign (Operand.tmp 39)), none⟩])))))
    (.reg false [⟨some 40, (Op.binOp BinOp.add 3 (Operand.tmp 22) (Operand.const (Value.int IntKind.i64 1)) 3), none⟩,
      ⟨some 22, (Op.move (Operand.tmp 40)), none⟩])))))))
  (.seq (.reg false [⟨some 41, (Op.move (Operand.tmp 9)), none⟩,
    ⟨some 6, (Op.assign (Operand.tmp 41)), none⟩,
    ⟨some 7, (Op.assign (Operand.const (Value.int IntKind.i64 0))), none⟩])
  .ret)))))
noncomputable def b37 : Code := Try.f37.body.getD .skip
theorem hb37 : Try.f37.body = some b37 := by kernel_rfl
theorem sh37 : shortC A37 b37 = c37 := by kernel_rfl
def rs37 : List ResultVar := [(ResultVar.tmp 6), (ResultVar.tmp 7)]
theorem hr37 : Try.f37.results.toList = rs37 := by kernel_rfl
/- Functions in short form. -/
/-! parquetry/tensor.place (2 parameters; calls 91 parquetry/tensor.Right, 96 parquetry/shape.Index) -/
def A182 : Ann := { drop := fun i => false }
noncomputable def c182 : Cc :=
  (.seq (.reg false [⟨some 2, (Op.box 40 (Operand.tmp 0)), none⟩,
    ⟨some 4, (Op.assign (Operand.const (Value.int IntKind.i64 0))), none⟩])
  (.seq (.seq (.reg false [⟨some 5, (Op.load 40 (Operand.tmp 2)), none⟩,
    ⟨some 6, (Op.call { callee := (Callee.value (Operand.func 91)), args := #[(Operand.tmp 5)], argTypes := #[40] }), none⟩,
    ⟨some 7, (Op.unOp UnOp.not 4 (Operand.tmp 6)), none⟩])
  (.cond (Operand.tmp 7)
    (.seq (.reg false [⟨some 4, (Op.assign (Operand.const (Value.int IntKind.i64 (-1)))), none⟩])
    .ret)
    .skip))
  (.seq (.reg false [⟨some 8, (Op.fieldAddr 40 (Operand.tmp 2) 0), none⟩,
    ⟨some 9, (Op.load 22 (Operand.tmp 8)), none⟩,
    ⟨some 10, (Op.move (Operand.tmp 1)), none⟩,
    ⟨some 11, (Op.call { callee := (Callee.value (Operand.func 96)), args := #[(Operand.tmp 9), (Operand.tmp 10)], argTypes := #[22, 22] }), none⟩,
    ⟨some 4, (Op.assign (Operand.tmp 11)), none⟩])
  .ret)))
noncomputable def b182 : Code := Try.f182.body.getD .skip
theorem hb182 : Try.f182.body = some b182 := by kernel_rfl
theorem sh182 : shortC A182 b182 = c182 := by kernel_rfl
def rs182 : List ResultVar := [(ResultVar.tmp 4)]
theorem hr182 : Try.f182.results.toList = rs182 := by kernel_rfl
/-! parquetry/tensor.Get (2 parameters; calls 182 parquetry/tensor.place) -/
def A174 : Ann := { drop := fun i => false }
noncomputable def c174 : Cc :=
  (.seq (.reg false [⟨some 2, (Op.box 40 (Operand.tmp 0)), none⟩,
    ⟨some 4, (Op.assign (Operand.const (Value.int IntKind.i64 0))), none⟩,
    ⟨some 5, (Op.assign (Operand.const (Value.bool false))), none⟩])
  (.seq (.reg false [⟨some 7, (Op.load 40 (Operand.tmp 2)), none⟩,
    ⟨some 8, (Op.move (Operand.tmp 1)), none⟩,
    ⟨some 9, (Op.call { callee := (Callee.value (Operand.func 182)), args := #[(Operand.tmp 7), (Operand.tmp 8)], argTypes := #[40, 22] }), none⟩,
    ⟨some 6, (Op.assign (Operand.tmp 9)), none⟩])
  (.seq (.seq (.reg false [⟨some 10, (Op.move (Operand.tmp 6)), none⟩,
    ⟨some 11, (Op.binOp BinOp.lss 3 (Operand.tmp 10) (Operand.const (Value.int IntKind.i64 0)) 3), none⟩])
  (.cond (Operand.tmp 11)
    (.seq (.reg false [⟨some 4, (Op.assign (Operand.const (Value.int IntKind.i64 0))), none⟩,
      ⟨some 5, (Op.assign (Operand.const (Value.bool false))), none⟩])
    .ret)
    .skip))
  (.seq (.reg false [⟨some 12, (Op.fieldAddr 40 (Operand.tmp 2) 1), none⟩,
    ⟨some 13, (Op.load 38 (Operand.tmp 12)), none⟩,
    ⟨some 14, (Op.move (Operand.tmp 6)), none⟩,
    ⟨some 15, (Op.indexAddr 38 (Operand.tmp 13) (Operand.tmp 14)), none⟩,
    ⟨some 16, (Op.load 2 (Operand.tmp 15)), none⟩,
    ⟨some 4, (Op.assign (Operand.tmp 16)), none⟩,
    ⟨some 5, (Op.assign (Operand.const (Value.bool true))), none⟩])
  .ret))))
noncomputable def b174 : Code := Try.f174.body.getD .skip
theorem hb174 : Try.f174.body = some b174 := by kernel_rfl
theorem sh174 : shortC A174 b174 = c174 := by kernel_rfl
def rs174 : List ResultVar := [(ResultVar.tmp 4), (ResultVar.tmp 5)]
theorem hr174 : Try.f174.results.toList = rs174 := by kernel_rfl
/-! parquetry/axes.at (2 parameters; calls 174 parquetry/tensor.Get) -/
def A162 : Ann := { drop := fun i => false }
noncomputable def c162 : Cc :=
  (.seq (.reg false [⟨some 2, (Op.box 40 (Operand.tmp 0)), none⟩,
    ⟨some 4, (Op.assign (Operand.const (Value.int IntKind.i64 0))), none⟩])
  (.seq (.reg false [⟨some 8, (Op.load 40 (Operand.tmp 2)), none⟩,
    ⟨some 9, (Op.move (Operand.tmp 1)), none⟩,
    ⟨some 10, (Op.call { callee := (Callee.value (Operand.func 174)), args := #[(Operand.tmp 8), (Operand.tmp 9)], argTypes := #[40, 22] }), none⟩,
    ⟨some 7, (Op.move (Operand.tmp 10)), none⟩,
    ⟨some 11, (Op.extract (Operand.tmp 7) 0), none⟩,
    ⟨some 12, (Op.extract (Operand.tmp 7) 1), none⟩,
    ⟨some 5, (Op.assign (Operand.tmp 11)), none⟩,
    ⟨some 6, (Op.assign (Operand.tmp 12)), none⟩])
  (.seq (.reg false [⟨some 13, (Op.move (Operand.tmp 5)), none⟩,
    ⟨some 4, (Op.assign (Operand.tmp 13)), none⟩])
  .ret)))
noncomputable def b162 : Code := Try.f162.body.getD .skip
theorem hb162 : Try.f162.body = some b162 := by kernel_rfl
theorem sh162 : shortC A162 b162 = c162 := by kernel_rfl
def rs162 : List ResultVar := [(ResultVar.tmp 4)]
theorem hr162 : Try.f162.results.toList = rs162 := by kernel_rfl
/- Walks: a tensor's number at a place. -/
theorem pow32 (k : Nat) (h : k ≤ 4) : ((32 ^ k : Nat) : Int) ≤ 1048576 := by
  have : 32 ^ k ≤ 32 ^ 4 := Nat.pow_le_pow_right (by decide) h
  have h4 : (32 : Nat) ^ 4 = 1048576 := by decide
  omega
theorem ofGo_lt : ∀ (s l : List Int) (d P : Int) (k : Nat), k + s.length ≤ 4 → (∀ j : Nat, j < s.length → 0 ≤ nth s j ∧ nth s j ≤ 32) → 0 ≤ d → d < P → P ≤ ((32 ^ k : Nat) : Int) → (0 ≤ ofGo d s l ∧ ofGo d s l < prodW P s) ∨ ofGo d s l = -1 ∨ s.length ≠ l.length := by
  intro s
  induction s with
  | nil =>
    intro l d P k _ _ h0 h1 _
    cases l with
    | nil => exact .inl ⟨h0, h1⟩
    | cons => exact .inr (.inr (by simp))
  | cons x s ih =>
    intro l d P k hk hs h0 h1 hP
    cases l with
    | nil => exact .inr (.inr (by simp))
    | cons y l =>
      simp only [ofGo, prodW]
      by_cases hy : y < 0 ∨ x ≤ y
      · rw [if_pos hy]; exact .inr (.inl rfl)
      · rw [if_neg hy]
        have hx := hs 0 (by simp)
        have hx' : 0 ≤ x ∧ x ≤ 32 := by simpa [nth] using hx
        have hk1 := pow32 k (by simp at hk; omega)
        have hk2 := pow32 (k + 1) (by simp at hk; omega)
        have hpk : ((32 ^ (k + 1) : Nat) : Int) = ((32 ^ k : Nat) : Int) * 32 := by rw [Nat.pow_succ]; simp
        have hPx := mul_rng (a := P) (b := x) (A := ((32 ^ k : Nat) : Int)) (B := 32) (by omega) hx'
        have hdx := mul_rng (a := d) (b := x) (A := P - 1) (B := x) (by omega) (by omega)
        have hs1 : (P - 1) * x = P * x - x := by rw [Int.sub_mul, Int.one_mul]
        rw [w_id (x := d * x) (by omega), w_id (x := d * x + y) (by omega), w_id (x := P * x) (by omega)]
        have := ih l (d * x + y) (P * x) (k + 1) (by simp at hk; omega) (fun j hj => by simpa [nth] using hs (j + 1) (by simpa using hj)) (by omega) (by omega) (by omega)
        rcases this with h | h | h
        · exact .inl h
        · exact .inr (.inl h)
        · exact .inr (.inr (by simpa using h))
theorem idxL_lt (s l : List Int) : idxL s l = -1 ∨ (0 ≤ idxL s l ∧ idxL s l < sizeOf s) := by
  unfold idxL
  by_cases h : shapeOK s = false ∨ l.length ≠ s.length
  · rw [if_pos h]; exact .inl rfl
  · rw [if_neg h]
    have hs : shapeOK s = true := by
      cases hc : shapeOK s
      · exact absurd (.inl hc) h
      · rfl
    have hl : l.length = s.length := Decidable.byContradiction fun e => h (.inr e)
    obtain ⟨h4, hr⟩ := shapeOK_rng hs
    have hz : sizeOf s = prodW 1 s := by simp [sizeOf, hs]
    rcases ofGo_lt s l 0 1 0 (by omega) hr (by omega) (by omega) (by simp) with h1 | h1 | h1
    · rw [hz]; exact .inr h1
    · exact .inl h1
    · exact absurd hl.symm h1
/-- The number of a place of a tensor; -1: it is none. -/
def plT (p : List Int × List Int) (l : List Int) : Int := if tOK p = true then idxL p.1 l else -1
def F182 (args : List AV) (H : Hp) : Option AV := match args with
  | [t, a] => (tens H t).bind fun p => (ints H a).map fun l => .int .i64 (plT p l)
  | _ => none
theorem snd182 : Sound Try.prog 182 (FSem.pure F182).run := by
  refine sound_of hT (EOK_cons snd91 (EOK_cons snd96 (EOK_nil _))) mixed A182 Try.func182 hb182 (by kernel_rfl) (by kernel_rfl) (by kernel_rfl) (by kernel_rfl) sh182 2 (by kernel_rfl) rs182 hr182 ?_
  intro args H r H' hw h
  obtain ⟨rfl, hv⟩ := pureAt h
  clear h
  unfold F182 at hv
  split at hv
  · rename_i t a
    obtain ⟨⟨s, d⟩, ht, hv⟩ := Option.bind_eq_some_iff.1 hv
    obtain ⟨l, hl, hv⟩ := Option.map_eq_some_iff.1 hv
    cases hv
    obtain ⟨x, y, rfl, hs, hd⟩ := tens_some ht
    have hbx := abox_agg H' (ints_one' hs) (ints_one' hd)
    have hat := new_at H' [x, y]
    have l1 := ld22 hat 0
    have l3 := ld40 hat
    have hP : Pre H' (H'.new [x, y]) := Pre.new (Pre.refl _) _
    have hs1 := ints_ext hP hs
    have ht1 := tens_ext hP ht
    have hl1 := ints_ext hP hl
    simp only [List.getElem?_cons_zero] at l1
    refine ⟨rfl, go ?_⟩
    unfold c182
    simp only [argSl]
    generalize H'.new [x, y] = H1 at *
    generalize H'.bs.length = b at l1 l3 hbx
    generalize H'.c = ver at l1 l3 hbx
    clear hs hd hat ht hl
    replace hP := Hide.mk hP
    rcases h1 : tOK (s, d) with _ | _
    · repeat' (first | apply goSeq | apply goReg | apply goSeqN | apply goSeqR | apply goSkip | apply goRet | apply goNil | apply goBlock | apply goExit | apply goBlkN | apply goBlkR | apply goBlkE | apply goSeqE | apply goLoopR | apply goLoopE | refine xOp ?_ | refine xOp0 ?_ | refine xYes ?_ | refine xNo ?_ | refine xNoU ?_ | refine xIfT ?_ | refine xIfF ?_ | refine xIf ?_ ?_ | refine xSplit ?_ ?_ | refine xIfQ ?_ ?_ | refine xSplitQ ?_ ?_ | refine xBlkX ?_ | intro _)
      refine goEnd hw hP.out (by simp) (by simp [rs182]; exact rfl) rfl ?_
      simp [plT, h1]
    · repeat' (first | apply goSeq | apply goReg | apply goSeqN | apply goSeqR | apply goSkip | apply goRet | apply goNil | apply goBlock | apply goExit | apply goBlkN | apply goBlkR | apply goBlkE | apply goSeqE | apply goLoopR | apply goLoopE | refine xOp ?_ | refine xOp0 ?_ | refine xYes ?_ | refine xNo ?_ | refine xNoU ?_ | refine xIfT ?_ | refine xIfF ?_ | refine xIf ?_ ?_ | refine xSplit ?_ ?_ | refine xIfQ ?_ ?_ | refine xSplitQ ?_ ?_ | refine xBlkX ?_ | intro _)
      refine goEnd hw hP.out (by simp) (by simp [rs182]; exact rfl) rfl ?_
      simp [plT, h1]
  · cases hv
@[simp] theorem F182_at (t a : AV) (H : Hp) : F182 [t, a] H = (tens H t).bind fun p => (ints H a).map fun l => .int .i64 (plT p l) := rfl
theorem plT_lt (p : List Int × List Int) (l : List Int) : plT p l = -1 ∨ (0 ≤ plT p l ∧ plT p l < p.2.length) := by
  unfold plT
  split
  · rename_i h
    have hz : (p.2.length : Int) = sizeOf p.1 := by simp [tOK] at h; exact h.2
    rcases idxL_lt p.1 l with h1 | h1
    · exact .inl h1
    · rw [hz]; exact .inr h1
  · exact .inl rfl
/-- The number at a place; 0: there is none. -/
def atT (p : List Int × List Int) (l : List Int) : Int := if plT p l < 0 then 0 else nth p.2 (plT p l)
def F174 (args : List AV) (H : Hp) : Option AV := match args with
  | [t, a] => (tens H t).bind fun p => (ints H a).map fun l => .tup [.int .i64 (atT p l), .bool (!decide (plT p l < 0))]
  | _ => none
theorem snd174 : Sound Try.prog 174 (FSem.pure F174).run := by
  refine sound_of hT (EOK_cons snd182 (EOK_nil _)) mixed A174 Try.func174 hb174 (by kernel_rfl) (by kernel_rfl) (by kernel_rfl) (by kernel_rfl) sh174 2 (by kernel_rfl) rs174 hr174 ?_
  intro args H r H' hw h
  obtain ⟨rfl, hv⟩ := pureAt h
  clear h
  unfold F174 at hv
  split at hv
  · rename_i t a
    obtain ⟨⟨s, d⟩, ht, hv⟩ := Option.bind_eq_some_iff.1 hv
    obtain ⟨l, hl, hv⟩ := Option.map_eq_some_iff.1 hv
    cases hv
    obtain ⟨x, y, rfl, hs, hd⟩ := tens_some ht
    have hbx := abox_agg H' (ints_one' hs) (ints_one' hd)
    have hat := new_at H' [x, y]
    have l1 := ld38 hat 1
    have l3 := ld40 hat
    have hP : Pre H' (H'.new [x, y]) := Pre.new (Pre.refl _) _
    have hd1 : ints (H'.new [x, y]) y = some d := ints_ext hP hd
    have ht1 := tens_ext hP ht
    have hl1 := ints_ext hP hl
    have hix := aidxS_ints hd1 .i64
    have hld := aload_nth T2 rfl hd1
    simp only [← aidx38] at hix
    simp only [List.getElem?_cons_zero, List.getElem?_cons_succ] at l1
    have hlt := plT_lt (s, d) l
    refine ⟨rfl, go ?_⟩
    unfold c174
    simp only [argSl]
    generalize H'.new [x, y] = H1 at *
    generalize H'.bs.length = b at l1 l3 hbx
    generalize H'.c = ver at l1 l3 hbx
    clear hs hd hat ht hl hd1
    have hat' : atT (s, d) l = if plT (s, d) l < 0 then 0 else nth d (plT (s, d) l) := rfl
    rw [hat']
    clear hat'
    replace hP := Hide.mk hP
    by_cases h0 : plT (s, d) l < 0
    · clear hlt
      repeat' (first | apply goSeq | apply goReg | apply goSeqN | apply goSeqR | apply goSkip | apply goRet | apply goNil | apply goBlock | apply goExit | apply goBlkN | apply goBlkR | apply goBlkE | apply goSeqE | apply goLoopR | apply goLoopE | refine xOp ?_ | refine xOp0 ?_ | refine xYes ?_ | refine xNo ?_ | refine xNoU ?_ | refine xIfT ?_ | refine xIfF ?_ | refine xIf ?_ ?_ | refine xSplit ?_ ?_ | refine xIfQ ?_ ?_ | refine xSplitQ ?_ ?_ | refine xBlkX ?_ | intro _)
      refine goEnd hw hP.out (by simp) (by simp [rs174]; exact rfl) rfl ?_
      simp [h0]
    · have hi0 : 0 ≤ plT (s, d) l := by omega
      have hi1 : plT (s, d) l < d.length := by
        rcases hlt with h | h
        · omega
        · exact h.2
      clear hlt
      repeat' (first | apply goSeq | apply goReg | apply goSeqN | apply goSeqR | apply goSkip | apply goRet | apply goNil | apply goBlock | apply goExit | apply goBlkN | apply goBlkR | apply goBlkE | apply goSeqE | apply goLoopR | apply goLoopE | refine xOp ?_ | refine xOp0 ?_ | refine xYes ?_ | refine xNo ?_ | refine xNoU ?_ | refine xIfT ?_ | refine xIfF ?_ | refine xIf ?_ ?_ | refine xSplit ?_ ?_ | refine xIfQ ?_ ?_ | refine xSplitQ ?_ ?_ | refine xBlkX ?_ | intro _)
      refine goEnd hw hP.out (by simp) (by simp [rs174]; exact rfl) rfl ?_
      simp [h0]
  · cases hv
@[simp] theorem F174_at (t a : AV) (H : Hp) : F174 [t, a] H = (tens H t).bind fun p => (ints H a).map fun l => .tup [.int .i64 (atT p l), .bool (!decide (plT p l < 0))] := rfl
def F162 (args : List AV) (H : Hp) : Option AV := match args with
  | [t, a] => (tens H t).bind fun p => (ints H a).map fun l => .int .i64 (atT p l)
  | _ => none
theorem snd162 : Sound Try.prog 162 (FSem.pure F162).run := by
  refine sound_of hT (EOK_cons snd174 (EOK_nil _)) mixed A162 Try.func162 hb162 (by kernel_rfl) (by kernel_rfl) (by kernel_rfl) (by kernel_rfl) sh162 2 (by kernel_rfl) rs162 hr162 ?_
  intro args H r H' hw h
  obtain ⟨rfl, hv⟩ := pureAt h
  clear h
  unfold F162 at hv
  split at hv
  · rename_i t a
    obtain ⟨⟨s, d⟩, ht, hv⟩ := Option.bind_eq_some_iff.1 hv
    obtain ⟨l, hl, hv⟩ := Option.map_eq_some_iff.1 hv
    cases hv
    obtain ⟨x, y, rfl, hs, hd⟩ := tens_some ht
    have hbx := abox_agg H' (ints_one' hs) (ints_one' hd)
    have hat := new_at H' [x, y]
    have l3 := ld40 hat
    have hP : Pre H' (H'.new [x, y]) := Pre.new (Pre.refl _) _
    have ht1 := tens_ext hP ht
    have hl1 := ints_ext hP hl
    refine ⟨rfl, go ?_⟩
    unfold c162
    simp only [argSl]
    generalize H'.new [x, y] = H1 at *
    generalize H'.bs.length = b at l3 hbx
    generalize H'.c = ver at l3 hbx
    clear hs hd hat ht hl
    replace hP := Hide.mk hP
    repeat' (first | apply goSeq | apply goReg | apply goSeqN | apply goSeqR | apply goSkip | apply goRet | apply goNil | apply goBlock | apply goExit | apply goBlkN | apply goBlkR | apply goBlkE | apply goSeqE | apply goLoopR | apply goLoopE | refine xOp ?_ | refine xOp0 ?_ | refine xYes ?_ | refine xNo ?_ | refine xNoU ?_ | refine xIfT ?_ | refine xIfF ?_ | refine xIf ?_ ?_ | refine xSplit ?_ ?_ | refine xIfQ ?_ ?_ | refine xSplitQ ?_ ?_ | refine xBlkX ?_ | intro _)
    exact goEnd hw hP.out (by simp) (by simp [rs162]; exact rfl) rfl rfl
  · cases hv
@[simp] theorem F162_at (t a : AV) (H : Hp) : F162 [t, a] H = (tens H t).bind fun p => (ints H a).map fun l => .int .i64 (atT p l) := rfl
/- Walks: what is called for each place of a tensor. -/
theorem aload_ext {t : Nat} {a v : AV} {H G : Hp} (hp : Pre H G) (h : aload T t a H = some v) : aload T t a G = some v := by
  unfold aload at h ⊢
  split at h
  · rename_i i b ver off hi _
    split at h
    · rename_i k hk
      simp only [hp.at hk]
      exact h
    · cases h
  · cases h
theorem aload_put {t b ver o b' : Nat} {k : Blk} {H : Hp} (h : b ≠ b') : aload T t (.ptr b ver o) (H.put b' k) = aload T t (.ptr b ver o) H := by
  unfold aload
  cases T t with
  | none => rfl
  | some i => simp only [at_put h]
theorem aload_ne {t b ver o b' ver' : Nat} {v : AV} {k : Blk} {H G : Hp} (hw : Wf H) (hp : Pre H G) (hv : H.c ≤ ver') (hk : G.at b' ver' = some k) (h : aload T t (.ptr b ver o) H = some v) : b ≠ b' := by
  unfold aload at h
  split at h
  · rename_i i b1 ver1 off1 hi he
    cases he
    split at h
    · rename_i k1 hk1
      exact Hp.at_ne (hp.at hk1) hk (by have := at_lt hw hk1; omega)
    · cases h
  · cases h
theorem off_ne {b' ver' : Nat} {v : AV} {l : List Int} {k : Blk} {H G : Hp} (hw : Wf H) (hp : Pre H G) (hv : H.c ≤ ver') (hk : G.at b' ver' = some k) (h : ints H v = some l) : off v b' = true := by
  unfold ints at h
  split at h
  · rfl
  · rfl
  · split at h
    · split at h
      · rename_i k1 hk1
        have := Hp.at_ne (hp.at hk1) hk (by have := at_lt hw hk1; omega)
        simpa [off] using this
      · cases h
    · cases h
  · cases h
/-- Places moved. -/
def addL : List Int → List Int → List Int
  | a :: l, b :: m => w (a + b) :: addL l m
  | l, _ => l
theorem addL_len : ∀ (l m : List Int), (addL l m).length = l.length := by
  intro l
  induction l with
  | nil => intro m; cases m <;> rfl
  | cons a l ih => intro m; cases m with
    | nil => rfl
    | cons b m => simp [addL, ih]
def F139 (args : List AV) (H : Hp) : Option AV := match args with
  | [_, .ptr b ver 0] => (match aload T 2 (.ptr b ver 0) H with | some (.int .i64 n) => some (.int .i64 n) | _ => none)
  | _ => none
theorem snd139 : Sound Try.prog 139 (FSem.pure F139).run := by
  refine sound_of hT (EOK_nil _) mixed A139 Try.func139 hb139 (by kernel_rfl) (by kernel_rfl) (by kernel_rfl) (by kernel_rfl) sh139 2 (by kernel_rfl) rs139 hr139 ?_
  intro args H r H' hw h
  obtain ⟨rfl, hv⟩ := pureAt h
  clear h
  unfold F139 at hv
  split at hv
  · split at hv
    · cases hv
      rename_i hl
      refine ⟨rfl, go ?_⟩
      unfold c139
      simp only [argSl]
      repeat' (first | apply goSeq | apply goReg | apply goSeqN | apply goSeqR | apply goSkip | apply goRet | apply goNil | apply goBlock | apply goExit | apply goBlkN | apply goBlkR | apply goBlkE | apply goSeqE | apply goLoopR | apply goLoopE | refine xOp ?_ | refine xOp0 ?_ | refine xYes ?_ | refine xNo ?_ | refine xNoU ?_ | refine xIfT ?_ | refine xIfF ?_ | refine xIf ?_ ?_ | refine xSplit ?_ ?_ | refine xIfQ ?_ ?_ | refine xSplitQ ?_ ?_ | refine xBlkX ?_ | intro _)
      exact goEnd hw (Pre.refl _) (by simp) (by simp [rs139]; exact rfl) rfl rfl
    · cases hv
  · cases hv
/-- The place is an own list, the rest lies elsewhere. -/
structure P161 (H : Hp) (pb pv n b1 v1 b2 v2 : Nat) (at' fr : List Int) (p : List Int × List Int) (fv x y : AV) : Prop where
  blk : H.at pb pv = some ⟨pv, at'.map (.int .i64), true, true⟩
  len : at'.length = n
  lb : n ≤ 1099511627776
  fl : aload T 22 (.ptr b1 v1 0) H = some fv
  fb : b1 ≠ pb
  fi : ints H fv = some fr
  fo : off fv pb = true
  tl : aload T 40 (.ptr b2 v2 0) H = some (.agg [x, y])
  tb : b2 ≠ pb
  tx : ints H x = some p.1
  txo : off x pb = true
  ty : ints H y = some p.2
  tyo : off y pb = true
  le : fr.length ≤ n
theorem map_int_inj {l m : List Int} (h : l.map (AV.int .i64) = m.map (.int .i64)) : l = m := by
  have := congrArg toInts h
  rw [toInts_map, toInts_map] at this
  exact Option.some.inj this
theorem P161.uniq {H : Hp} {pb pv n b1 v1 b2 v2 : Nat} {at1 fr : List Int} {p : List Int × List Int} {fv x y : AV} {at2 fr2 : List Int} {p2 : List Int × List Int} {fv2 x2 y2 : AV} (h : P161 H pb pv n b1 v1 b2 v2 at1 fr p fv x y) (k : P161 H pb pv n b1 v1 b2 v2 at2 fr2 p2 fv2 x2 y2) : at1 = at2 ∧ fr = fr2 ∧ p = p2 := by
  have e1 := h.blk
  rw [k.blk] at e1
  have e2 := h.fl
  rw [k.fl] at e2
  cases e2
  have e3 := h.fi
  rw [k.fi] at e3
  have e4 := h.tl
  rw [k.tl] at e4
  cases e4
  have e5 := h.tx
  rw [k.tx] at e5
  have e6 := h.ty
  rw [k.ty] at e6
  simp only [Option.some.injEq, Blk.mk.injEq, true_and, and_true] at e1
  refine ⟨(map_int_inj e1).symm, (Option.some.inj e3).symm, ?_⟩
  have a1 := Option.some.inj e5
  have a2 := Option.some.inj e6
  exact (Prod.ext a1 a2).symm
def put161 (H : Hp) (pb pv : Nat) (l : List Int) : Hp := H.put pb ⟨pv, l.map (.int .i64), true, true⟩
open Classical in
noncomputable def F161 (args : List AV) (H : Hp) : Option (AV × Hp) := match args with
  | [.sl pb pv 0 n 1 true, .ptr b1 v1 0, .ptr b2 v2 0] =>
    if h : ∃ q : (List Int × List Int × (List Int × List Int)) × (AV × AV × AV), P161 H pb pv n b1 v1 b2 v2 q.1.1 q.1.2.1 q.1.2.2 q.2.1 q.2.2.1 q.2.2.2 then
      some (.int .i64 (atT h.choose.1.2.2 (addL h.choose.1.1 h.choose.1.2.1)), put161 H pb pv (addL h.choose.1.1 h.choose.1.2.1)) else none
  | _ => none
theorem F161_at {H : Hp} {pb pv n b1 v1 b2 v2 : Nat} {at1 fr : List Int} {p : List Int × List Int} {fv x y : AV} (h : P161 H pb pv n b1 v1 b2 v2 at1 fr p fv x y) :
    F161 [.sl pb pv 0 n 1 true, .ptr b1 v1 0, .ptr b2 v2 0] H = some (.int .i64 (atT p (addL at1 fr)), put161 H pb pv (addL at1 fr)) := by
  have hex : ∃ q : (List Int × List Int × (List Int × List Int)) × (AV × AV × AV), P161 H pb pv n b1 v1 b2 v2 q.1.1 q.1.2.1 q.1.2.2 q.2.1 q.2.2.1 q.2.2.2 := ⟨((at1, fr, p), (fv, x, y)), h⟩
  have := P161.uniq hex.choose_spec h
  simp only [F161]
  rw [dif_pos hex, this.1, this.2.1, this.2.2]
theorem addL_take : ∀ (l m : List Int) (i : Nat), i < m.length → m.length ≤ l.length → (addL (l.take i) (m.take i) ++ l.drop i).set i (w (nth l i + nth m i)) = addL (l.take (i + 1)) (m.take (i + 1)) ++ l.drop (i + 1) := by
  intro l
  induction l with
  | nil => intro m i h1 h2; simp at h2; subst h2; simp at h1
  | cons a l ih =>
    intro m i h1 h2
    cases m with
    | nil => simp at h1
    | cons b m =>
      cases i with
      | zero => simp [addL, nth]
      | succ i =>
        have := ih m i (by simpa using h1) (by simpa using h2)
        simpa [addL, nth] using this
theorem nth_addL (l m : List Int) (i : Nat) (hi : i < l.length) : nth (addL (l.take i) (m.take i) ++ l.drop i) i = nth l i := by
  have : (addL (l.take i) (m.take i)).length = i := by rw [addL_len]; simp; omega
  simp [nth, List.getD_eq_getElem?_getD, List.getElem?_append_right, this]
set_option maxHeartbeats 1000000 in
theorem snd161 : Sound Try.prog 161 (FSem.eff F161).run := by
  refine sound_of hT (EOK_cons snd162 (EOK_nil _)) mixed A161 Try.func161 hb161 (by kernel_rfl) (by kernel_rfl) (by kernel_rfl) (by kernel_rfl) sh161 3 (by kernel_rfl) rs161 hr161 ?_
  intro args H r H' hw h
  have hv : F161 args H = some (r, H') := h
  clear h
  have hargs : ∃ pb pv n b1 v1 b2 v2 at1 fr p fv x y, args = [.sl pb pv 0 n 1 true, .ptr b1 v1 0, .ptr b2 v2 0] ∧ P161 H pb pv n b1 v1 b2 v2 at1 fr p fv x y := by
    unfold F161 at hv
    split at hv
    · split at hv
      · rename_i hex
        exact ⟨_, _, _, _, _, _, _, _, _, _, _, _, _, rfl, hex.choose_spec⟩
      · cases hv
    · cases hv
  obtain ⟨pb, pv, n, b1, v1, b2, v2, at1, fr, p, fv, x, y, rfl, hP⟩ := hargs
  rw [F161_at hP] at hv
  obtain ⟨rfl, rfl⟩ := Prod.mk.inj (Option.some.inj hv)
  clear hv
  have hl1 := hP.fl
  have hfl := alenS_ints hP.fi
  have hlb := hP.lb
  have hle := hP.le
  have hnl := hP.len
  simp only [← alen22] at hfl
  have hput : ∀ L : List Int, (put161 H pb pv L).at pb pv = some ⟨pv, L.map (.int .i64), true, true⟩ := fun L => at_put_same hP.blk rfl
  have hself : put161 H pb pv at1 = H := put_self hP.blk
  refine ⟨rfl, go ?_⟩
  unfold c161
  simp only [argSl]
  replace hP := Hide.mk hP
  repeat' (first | apply goSeq | apply goReg | apply goSeqN | apply goSeqR | apply goSkip | apply goRet | apply goNil | apply goBlock | apply goExit | apply goBlkN | apply goBlkR | apply goBlkE | apply goSeqE | apply goLoopR | apply goLoopE | refine xOp ?_ | refine xOp0 ?_ | refine xYes ?_ | refine xNo ?_ | refine xNoU ?_ | refine xIfT ?_ | refine xIfF ?_ | refine xIf ?_ ?_ | refine xSplit ?_ ?_ | refine xIfQ ?_ ?_ | refine xSplitQ ?_ ?_ | refine xBlkX ?_ | intro _)
  refine goLoop (fun m s1 G => ∃ i : Nat, m = fr.length - i ∧ i ≤ fr.length ∧ G = put161 H pb pv (addL (at1.take i) (fr.take i) ++ at1.drop i) ∧ get s1 0 = .sl pb pv 0 n 1 true ∧ get s1 2 = .ptr b2 v2 0 ∧ get s1 7 = fv ∧ get s1 8 = .int .i64 fr.length ∧ get s1 9 = .int .i64 i) fr.length ?_ ?_
  · exact ⟨0, rfl, Nat.zero_le _, by simpa [addL] using hself.symm, rfl, rfl, rfl, rfl, rfl⟩
  rintro m s1 G ⟨i, hmm, hi, rfl, g1, g2, g3, g4, g5⟩
  simp only [cut_cons, cut_nil, g1, g2, g3, g4, g5]
  clear g1 g2 g3 g4 g5 hl1
  have hi0 : (0 : Int) ≤ i := Int.natCast_nonneg i
  have hw1 : w ((i : Int) + 1) = ((i + 1 : Nat) : Int) := w_id (by omega)
  have hLl : (addL (at1.take i) (fr.take i) ++ at1.drop i).length = n := by simp [addL_len]; omega
  have hblk := hput (addL (at1.take i) (fr.take i) ++ at1.drop i)
  have hfi : ints (put161 H pb pv (addL (at1.take i) (fr.take i) ++ at1.drop i)) fv = some fr := by
    unfold put161; rw [ints_put hP.out.fo]; exact hP.out.fi
  have hti : ints (put161 H pb pv (addL (at1.take i) (fr.take i) ++ at1.drop i)) (.sl pb pv 0 n 1 true) = some (addL (at1.take i) (fr.take i) ++ at1.drop i) := by
    have := ints_of_ownF (H0 := ⟨[], 0⟩) (l := addL (at1.take i) (fr.take i) ++ at1.drop i) ⟨pb, pv, rfl, Nat.zero_le _, hblk⟩ (by omega)
    rwa [hLl] at this
  have hixf := aidxS_ints hfi .i64
  have hldf := aload_nth T3 rfl hfi
  have hixt := aidxS_ints hti .i64
  have hldt := aload_nth T3 rfl hti
  rw [hLl] at hixt hldt
  simp only [← aidx22] at hixf hixt
  have hx : ints (put161 H pb pv (addL (at1.take i) (fr.take i) ++ at1.drop i)) x = some p.1 := by
    unfold put161; rw [ints_put hP.out.txo]; exact hP.out.tx
  have hy : ints (put161 H pb pv (addL (at1.take i) (fr.take i) ++ at1.drop i)) y = some p.2 := by
    unfold put161; rw [ints_put hP.out.tyo]; exact hP.out.ty
  have htt := tens_of hx hy
  have hlt : aload T 40 (.ptr b2 v2 0) (put161 H pb pv (addL (at1.take i) (fr.take i) ++ at1.drop i)) = some (.agg [x, y]) := by
    unfold put161; rw [aload_put hP.out.tb]; exact hP.out.tl
  by_cases hif : i < fr.length
  · have hin : (i : Int) < n := by omega
    have hif' : (i : Int) < fr.length := by omega
    have hst : astore T 3 (pAt (.sl pb pv 0 n 1 true) i) (.int .i64 (w (nth (addL (at1.take i) (fr.take i) ++ at1.drop i) i + nth fr i))) (put161 H pb pv (addL (at1.take i) (fr.take i) ++ at1.drop i)) = some (put161 H pb pv (addL (at1.take (i + 1)) (fr.take (i + 1)) ++ at1.drop (i + 1))) := by
      simp only [astore, T3, pAt, hblk]
      rw [if_pos (by simp [AV.cells, AV.one, addL_len]; omega)]
      have e1 := setAll_one (addL (at1.take i) (fr.take i) ++ at1.drop i) i (w (nth at1 i + nth fr i))
      rw [addL_take at1 fr i hif (by omega)] at e1
      rw [nth_addL at1 fr i (by omega)]
      simp only [Int.toNat_natCast, Nat.zero_add, Nat.mul_one, AV.cells, e1]
      unfold put161
      rw [put_put]
    generalize hL1 : addL (at1.take i) (fr.take i) ++ at1.drop i = L1 at *
    generalize hL2 : addL (at1.take (i + 1)) (fr.take (i + 1)) ++ at1.drop (i + 1) = L2 at *
    generalize hG1 : put161 H pb pv L1 = G1 at *
    generalize hG2 : put161 H pb pv L2 = G2 at *
    clear hti hx hy htt hlt hblk hput hself
    repeat' (first | apply goSeq | apply goReg | apply goSeqN | apply goSeqR | apply goSkip | apply goRet | apply goNil | apply goBlock | apply goExit | apply goBlkN | apply goBlkR | apply goBlkE | apply goSeqE | apply goLoopR | apply goLoopE | refine xOp ?_ | refine xOp0 ?_ | refine xYes ?_ | refine xNo ?_ | refine xNoU ?_ | refine xIfT ?_ | refine xIfF ?_ | refine xIf ?_ ?_ | refine xSplit ?_ ?_ | refine xIfQ ?_ ?_ | refine xSplitQ ?_ ?_ | refine xBlkX ?_ | intro _)
    exact goLoopN (fr.length - (i + 1)) (by omega) ⟨i + 1, rfl, by omega, by rw [hL2]; exact hG2.symm, rfl, rfl, rfl, rfl, rfl⟩
  · have hLe : addL (at1.take i) (fr.take i) ++ at1.drop i = addL at1 fr := by
      have hif' : i = fr.length := by omega
      subst hif'
      have : ∀ (l m : List Int), m.length ≤ l.length → addL (l.take m.length) (m.take m.length) ++ l.drop m.length = addL l m := by
        intro l
        induction l with
        | nil => intro m h; cases m <;> simp [addL]
        | cons a l ih =>
          intro m h
          cases m with
          | nil => simp [addL]
          | cons b m => simpa [addL] using ih m (by simpa using h)
      exact this at1 fr (by omega)
    rw [hLe] at hti htt hlt ⊢
    have hif' : ¬ (i : Int) < fr.length := by omega
    obtain ⟨gg1, gg2⟩ := Hp.at_some hP.out.blk
    clear hput hself hblk hx hy hixf hldf hixt hldt
    generalize hG1 : put161 H pb pv (addL at1 fr) = G1 at *
    repeat' (first | apply goSeq | apply goReg | apply goSeqN | apply goSeqR | apply goSkip | apply goRet | apply goNil | apply goBlock | apply goExit | apply goBlkN | apply goBlkR | apply goBlkE | apply goSeqE | apply goLoopR | apply goLoopE | refine xOp ?_ | refine xOp0 ?_ | refine xYes ?_ | refine xNo ?_ | refine xNoU ?_ | refine xIfT ?_ | refine xIfF ?_ | refine xIf ?_ ?_ | refine xSplit ?_ ?_ | refine xIfQ ?_ ?_ | refine xSplitQ ?_ ?_ | refine xBlkX ?_ | intro _)
    refine ⟨⟨.inr rfl, [.int .i64 (atT p (addL at1 fr))], [], by simp [rs161], ?_⟩⟩
    rw [← hG1]
    refine Can.put hw gg1 rfl ?_ (fun _ _ h => h) rfl
    exact flats_rel (all_flat _)
/- Walks: tensors, made number by number. -/
theorem prodW_nonneg : ∀ (l : List Int) (n : Int) (k : Nat), k + l.length ≤ 4 → (∀ j : Nat, j < l.length → 0 ≤ nth l j ∧ nth l j ≤ 32) → 0 ≤ n → n ≤ ((32 ^ k : Nat) : Int) → 0 ≤ prodW n l := by
  intro l
  induction l with
  | nil => intro n k _ _ h _; exact h
  | cons x l ih =>
    intro n k hk hr h0 hP
    simp only [prodW]
    have hx := hr 0 (by simp)
    have hx' : 0 ≤ x ∧ x ≤ 32 := by simpa [nth] using hx
    have hk1 := pow32 k (by simp at hk; omega)
    have hk2 := pow32 (k + 1) (by simp at hk; omega)
    have hpk : ((32 ^ (k + 1) : Nat) : Int) = ((32 ^ k : Nat) : Int) * 32 := by rw [Nat.pow_succ]; simp
    have hPx := mul_rng (a := n) (b := x) (A := ((32 ^ k : Nat) : Int)) (B := 32) ⟨h0, hP⟩ hx'
    rw [w_id (x := n * x) (by omega)]
    exact ih _ (k + 1) (by simp at hk; omega) (fun j hj => by simpa [nth] using hr (j + 1) (by simpa using hj)) hPx.1 (by omega)
theorem sizeOf_nonneg (l : List Int) : 0 ≤ sizeOf l := by
  unfold sizeOf
  split
  · rename_i h
    obtain ⟨h4, hr⟩ := shapeOK_rng h
    exact prodW_nonneg l 1 0 (by omega) hr (by omega) (by simp)
  · omega
/-- What is called for each place comes to fn, and touches nothing but the place. -/
def CB (E : Env) (f : AV) (H : Hp) (n : Nat) (fn : List Int → Int) : Prop :=
  ∀ G pb pv at1, Ext H G → H.c ≤ pv → at1.length = n → G.at pb pv = some ⟨pv, at1.map (AV.int .i64), true, true⟩ →
    ∃ G', acall E f [.sl pb pv 0 n 1 true] G = some (.int .i64 (fn at1), G') ∧ Ext H G' ∧ G'.c = G.c ∧ ∀ b' ver', (b', ver') ≠ (pb, pv) → Keeps G G' b' ver'
/-- What is called, as a function of the place. -/
def cbF (H : Hp) (f : AV) (n : Nat) : Option (List Int → Int) := match f with
  | .func 139 [.ptr b ver 0] => (match aload T 2 (.ptr b ver 0) H with | some (.int .i64 m) => some (fun _ => m) | _ => none)
  | .func 161 [.ptr b1 v1 0, .ptr b2 v2 0] => (aload T 22 (.ptr b1 v1 0) H).bind fun fv => (ints H fv).bind fun fr => (aload T 40 (.ptr b2 v2 0) H).bind fun tv => (tens H tv).bind fun p => if fr.length ≤ n then some (fun at1 => atT p (addL at1 fr)) else none
  | _ => none
theorem cb_ok {E : Env} (h1 : E 139 = some (.pure F139)) (h2 : E 161 = some (.eff F161)) {H : Hp} (hw : Wf H) {f : AV} {n : Nat} (hn : n ≤ 1099511627776) {fn : List Int → Int} (h : cbF H f n = some fn) : CB E f H n fn := by
  intro G pb pv at1 hx hv hl hk
  unfold cbF at h
  split at h
  · rename_i b ver
    split at h
    · rename_i m hm
      cases h
      refine ⟨G, ?_, hx, rfl, fun _ _ _ _ h => h⟩
      simp only [acall_func, h1, Option.bind_some, run_pure, List.cons_append, List.nil_append, F139, aload_ext hx.pre hm, Option.map_some]
    · cases h
  · rename_i b1 v1 b2 v2
    obtain ⟨fv, hfv, h⟩ := Option.bind_eq_some_iff.1 h
    obtain ⟨fr, hfr, h⟩ := Option.bind_eq_some_iff.1 h
    obtain ⟨tv, htv, h⟩ := Option.bind_eq_some_iff.1 h
    obtain ⟨p, hp, h⟩ := Option.bind_eq_some_iff.1 h
    split at h
    rotate_left
    · cases h
    rename_i hle
    cases h
    obtain ⟨x, y, rfl, hxs, hys⟩ := tens_some hp
    have hP : P161 G pb pv n b1 v1 b2 v2 at1 fr p fv x y :=
      ⟨hk, hl, hn, aload_ext hx.pre hfv, aload_ne hw hx.pre hv hk hfv, ints_ext hx.pre hfr, off_ne hw hx.pre hv hk hfr, aload_ext hx.pre htv, aload_ne hw hx.pre hv hk htv, ints_ext hx.pre hxs, off_ne hw hx.pre hv hk hxs, ints_ext hx.pre hys, off_ne hw hx.pre hv hk hys, hle⟩
    refine ⟨put161 G pb pv (addL at1 fr), ?_, put_ext hw hx hv hk, rfl, fun b' ver' hne => Keeps.put2 hk hne⟩
    simp only [acall_func, h2, Option.bind_some, run_eff, List.cons_append, List.nil_append, F161_at hP]
  · cases h
/-- A copy of a list. -/
def clT (s : AV) (l : List Int) : Tr := match s with | .nilS => trS [] | _ => trC l
theorem clT_is {H : Hp} {s : AV} {l : List Int} (h : ints H s = some l) : isL (clT s l) l := by
  unfold clT
  split
  · cases h; exact .inl rfl
  · exact .inr (.inr rfl)
def madeL (fn : List Int → Int) (s : List Int) : List Int := (List.range (sizeOf s).toNat).map fun (i : Nat) => fn (meshAt s (i : Int))
theorem madeL_len (fn : List Int → Int) (s : List Int) : (madeL fn s).length = (sizeOf s).toNat := by simp [madeL]
def notMt (_ : AV) : Bool := true
/-- What Clone comes to. -/
theorem F103_at {H : Hp} {s : AV} {l : List Int} (h : ints H s = some l) (hm : notMt s = true) (hl : l.length < 1099511627776) : F103 [s] H = some (mk (clT s l) H) := by
  unfold ints at h
  split at h
  · cases h; rfl
  · cases h; rfl
  · rename_i b ver o n es f
    show (ints H (.sl b ver o n es f)).bind _ = _
    have : ints H (.sl b ver o n es f) = some l := h
    rw [this, Option.bind_some, if_pos hl]
    rfl
  · cases h
def F138 (args : List AV) (H : Hp) : Option (AV × Hp) := match args with
  | [s, f] => (ints H s).bind fun l => (cbF H f l.length).bind fun fn => if notMt s = true ∧ l.length < 1099511627776 then some (mk (.agg [clT s l, trF (madeL fn l)]) H) else none
  | _ => none
set_option maxHeartbeats 2000000 in
theorem snd138 : Sound Try.prog 138 (FSem.eff F138).run := by
  refine sound_of hT (EOK_cons snd95 (EOK_cons snd103 (EOK_cons snd136 (EOK_cons snd139 (EOK_cons snd161 (EOK_nil _)))))) mixed A138 Try.func138 hb138 (by kernel_rfl) (by kernel_rfl) (by kernel_rfl) (by kernel_rfl) sh138 2 (by kernel_rfl) rs138 hr138 ?_
  intro args H r H' hw h
  have hv : F138 args H = some (r, H') := h
  clear h
  unfold F138 at hv
  split at hv
  · rename_i sv f
    obtain ⟨s, hs, hv⟩ := Option.bind_eq_some_iff.1 hv
    obtain ⟨fn, hfn, hv⟩ := Option.bind_eq_some_iff.1 hv
    split at hv
    rotate_left
    · cases hv
    rename_i hmax
    obtain ⟨hmt, hmax⟩ := hmax
    replace hv := Option.some.inj hv
    have hle := sizeOf_le s
    have hge := sizeOf_nonneg s
    have hcb := cb_ok (E := envL [(95, FSem.eff F95), (103, FSem.eff F103), (136, FSem.pure F136), (139, FSem.pure F139), (161, FSem.eff F161)]) rfl rfl hw (by omega) hfn
    generalize hn : (sizeOf s).toNat = n at *
    have hmi : ∀ i : Nat, i < n → nth (madeL fn s) i = fn (meshAt s i) := by
      intro i hi
      simp [madeL, nth, hn, hi]
    have hml := madeL_len fn s
    rw [hn] at hml
    generalize madeL fn s = D at *
    have hfa : ∀ G, acall (envL [(95, FSem.eff F95), (103, FSem.eff F103), (136, FSem.pure F136), (139, FSem.pure F139), (161, FSem.eff F161)]) f G = acall (envL [(95, FSem.eff F95), (103, FSem.eff F103), (136, FSem.pure F136), (139, FSem.pure F139), (161, FSem.eff F161)]) f G := fun _ => rfl
    clear hfn hfa
    -- the result's cell
    have x0 : Ext H (H.new [.nilS, .nilS]) := (Ext.refl hw).new _
    have c0 : OwnC H (H.new [.nilS, .nilS]) H.bs.length H.c [.nilS, .nilS] := ⟨Nat.le_refl _, new_at _ _⟩
    have hvlt : H.c < (H.new [AV.nilS, AV.nilS]).c := Nat.lt_succ_self _
    generalize hH0 : H.new [.nilS, .nilS] = H0 at *
    generalize hp0 : H.bs.length = p0 at *
    generalize hq0 : H.c = q0 at *
    have hs0 := ints_ext x0.pre hs
    -- the shape
    have e103 := F103_at hs0 hmt hmax
    obtain ⟨b1, r1, f1, x1⟩ := mk_rep (clT sv s) (c0 := 0) x0.wf (Nat.zero_le _) ((clT_is hs0).ok 0)
    have hshi := (clT_is hs0).ints (by omega) r1
    generalize hr1 : mk (clT sv s) H0 = tt at *
    obtain ⟨shv, H1⟩ := tt
    simp only at r1 f1 x1 hshi
    have hone := ints_one' hshi
    have hs1 := ints_ext x1.pre hs0
    -- the numbers
    obtain ⟨dav, H2, e2, o2, x2⟩ := make_own (Ext.refl x1.wf) n (by omega)
    obtain ⟨b2, r2, f2⟩ := o2.repF x2.wf
    have hone2 := ownF_one o2
    have hbd := bld40_one hone hone2
    -- the tensor
    have c3 : OwnC H2 (H2.new [.nilS, .nilS]) H2.bs.length H2.c [.nilS, .nilS] := ⟨Nat.le_refl _, new_at _ _⟩
    have x3 : Ext H2 (H2.new [.nilS, .nilS]) := (Ext.refl x2.wf).new _
    have st := st40 (x := shv) (y := dav) (new_at H2 [.nilS, .nilS]) hone hone2
    obtain ⟨c4, x4⟩ := c3.wr x2.wf x3 [shv, dav]
    have hq3lt : H2.c < ((H2.new [.nilS, .nilS]).put H2.bs.length ⟨H2.c, [shv, dav], true, true⟩).c := Nat.lt_succ_self _
    generalize hH3 : H2.new [.nilS, .nilS] = H3 at *
    generalize hp3 : H2.bs.length = p3 at *
    generalize hq3 : H2.c = q3 at *
    generalize hH4 : H3.put p3 ⟨q3, [shv, dav], true, true⟩ = H4 at *
    have l1 := ld38 c4.at' 1
    simp only [List.getElem?_cons_zero, List.getElem?_cons_succ] at l1
    have c0' := ((c0.ext x1.pre).ext x2.pre).ext x4.pre
    have rs4 := (Rep.ext x2.pre r1).ext x4.pre
    have rd4 := Rep.ext x4.pre r2
    have x04 : Ext H H4 := ((x0.trans x1).trans x2).trans x4
    have hdl : alen T 38 dav = some (.int .i64 n) := by
      rw [alen38, alenS_ints (ints_of_ownF o2 (by simp; omega))]; simp
    have h01 : q0 ≤ H0.c := Nat.le_of_lt hvlt
    have h11 : H0.c ≤ H1.c := x1.c
    have h12 : H1.c ≤ q3 := by have := x2.c; omega
    have hszn : sizeOf s = n := by omega
    clear hle hge c0 x0 x1 x2 c3 x3 r1 r2 hshi o2
    replace hv := Hide.mk hv
    replace hs := Hide.mk hs
    replace hcb := Hide.mk hcb
    replace hmi := Hide.mk hmi
    replace f1 := Hide.mk f1
    replace f2 := Hide.mk f2
    replace c4 := Hide.mk c4
    replace c0' := Hide.mk c0'
    replace rs4 := Hide.mk rs4
    replace rd4 := Hide.mk rd4
    replace x04 := Hide.mk x04
    replace hml := Hide.mk hml
    have hx4 := Hide.mk x4
    clear x4
    have em := amake38
    refine ⟨rfl, go ?_⟩
    unfold c138
    simp only [argSl]
    repeat' (first | apply goSeq | apply goReg | apply goSeqN | apply goSeqR | apply goSkip | apply goRet | apply goNil | apply goBlock | apply goExit | apply goBlkN | apply goBlkR | apply goBlkE | apply goSeqE | apply goLoopR | apply goLoopE | refine xOp ?_ | refine xOp0 ?_ | refine xYes ?_ | refine xNo ?_ | refine xNoU ?_ | refine xIfT ?_ | refine xIfF ?_ | refine xIf ?_ ?_ | refine xSplit ?_ ?_ | refine xIfQ ?_ ?_ | refine xSplitQ ?_ ?_ | refine xBlkX ?_ | intro _)
    have hHc : H.c ≤ q0 := by omega
    have hH2c : H2.c ≤ q3 := by omega
    clear hH0 hp0 hq0 hs0 hr1 e103 hs1 e2 hbd hH3 hp3 hq3 hH4 st l1 hdl em
    refine goLoop (fun m s1 G => ∃ (i : Nat) (L : List Int), m = n - i ∧ i ≤ n ∧ L.length = n ∧ get s1 0 = sv ∧ get s1 1 = f ∧ get s1 4 = .ptr p0 q0 0 ∧ get s1 5 = .ptr p3 q3 0 ∧ get s1 15 = .int .i64 n ∧ get s1 16 = .int .i64 i ∧ Ext H G ∧ q3 < G.c ∧ OwnC H G p0 q0 [.nilS, .nilS] ∧ OwnC H2 G p3 q3 [shv, dav] ∧ Rep H0.c G (clT sv s) shv b1 ∧ Rep H1.c G (trF L) dav b2 ∧ ∀ j : Nat, j < i → nth L j = nth D j) n ?_ ?_
    · exact ⟨0, List.replicate n 0, rfl, Nat.zero_le _, by simp, rfl, rfl, rfl, rfl, rfl, rfl, x04.out, hq3lt, c0'.out, c4.out, rs4.out, rd4.out, by simp⟩
    clear c0' c4 rs4 rd4
    rintro m s1 G ⟨i, L, hmm, hi, hLn, g1, g2, g3, g4, g5, g6, hx, hqG, d0, d3, hr, hd, hL⟩
    simp only [cut_cons, cut_nil, g1, g2, g3, g4, g5, g6]
    clear g1 g2 g3 g4 g5 g6
    have hi0 : (0 : Int) ≤ i := Int.natCast_nonneg i
    have hw1 : w ((i : Int) + 1) = ((i + 1 : Nat) : Int) := w_id (by have := sizeOf_le s; omega)
    have l1 := ld38 d3.at' 1
    have l2 := ld40 d3.at'
    simp only [List.getElem?_cons_zero, List.getElem?_cons_succ] at l1
    replace hL := Hide.mk hL
    by_cases hin : i < n
    · have hsG := ints_ext hx.pre hs.out
      have e95 : F95 [sv, .int .i64 i] G = some (mkF G (meshAt s i)) := by
        simp only [F95, hsG, Option.map_some]
        rw [if_neg (by omega)]
      have hxm := mkF_ext hx.wf (meshAt s i)
      obtain ⟨G2, ef, x2, c2, k2⟩ := hcb.out (mkF G (meshAt s i)).2 G.bs.length G.c (meshAt s i) (hx.trans hxm) hx.c (meshAt_len s i) (new_at G _)
      have k1 : ∀ b' ver', ver' < G.c → Keeps G G2 b' ver' := fun b' ver' hlt => (Keeps.pre hxm.pre b' ver').trans (k2 b' ver' (fun e => by cases e; omega))
      have d31 := d3.ext hxm.pre
      have l1' := ld38 d31.at' 1
      have d32 := d3.keep (k1 p3 q3 hqG)
      have l1'' := ld38 d32.at' 1
      simp only [List.getElem?_cons_zero, List.getElem?_cons_succ] at l1' l1''
      have d02 := d0.keep (k1 p0 q0 (by omega))
      have hr2 := Rep.keep (clT sv s) (fun p hp => k1 p.1 p.2 (by have := (f1.out.2 p hp).2; omega)) hr
      have hd2 := Rep.keep (trF L) (fun p hp => k1 p.1 p.2 (by have := (f2.out.2 p hp).2; omega)) hd
      have hixd : aidx T 38 dav (.int .i64 i) = some (pAt dav i) := by
        have := aidxS_ints (isL.ints (.inr (.inl rfl)) (by have := sizeOf_le s; omega) hd) .i64 i
        rw [aidx38, this, if_pos (by omega)]
      have hml' := meshAt_len s i
      have hpl : (mkF G (meshAt s i)).1 = .sl G.bs.length G.c 0 s.length 1 true := by simp [mkF, hml']
      rw [← trF_B] at hd2
      obtain ⟨G3, e3, hd3, k3, x3, c3⟩ := rep_store (.inr rfl) hd2 i (by omega) (fn (meshAt s i))
      have hr3 := Rep.keep (clT sv s) (fun p hp => k3 p.1 p.2 (fun hm => by have := (f1.out.2 p hp).2; have := (f2.out.2 _ hm).1; omega)) hr2
      have d33 := d32.keep (k3 p3 q3 (fun hm => by have := (f2.out.2 _ hm).2; simp only at this; omega))
      have d03 := d02.keep (k3 p0 q0 (fun hm => by have := (f2.out.2 _ hm).1; simp only at this; omega))
      have x4 := x3 H hw x2 (by omega)
      have hc3 : q3 < G3.c := by
        have h1 : G3.c = G2.c := c3
        have h2 : G2.c = (mkF G (meshAt s i)).2.c := c2
        have h3 : G.c ≤ (mkF G (meshAt s i)).2.c := hxm.c
        omega
      have hin' : (i : Int) < n := by omega
      rw [← hpl] at ef
      generalize hmk : mkF G (meshAt s i) = gg at *
      obtain ⟨pl, G1⟩ := gg
      simp only at ef l1'
      generalize hval : fn (meshAt s i) = y at *
      clear hsG hmk hpl hxm x2 k2 k1 d31 d32 d02 hr2 hd2 k3 x3 c3 c2 hml' d3 d0 hr hd hx
      replace hr3 := Hide.mk hr3
      replace d33 := Hide.mk d33
      replace d03 := Hide.mk d03
      replace hd3 := Hide.mk hd3
      replace x4 := Hide.mk x4
      have hval' := Hide.mk hval
      clear hval
      repeat' (first | apply goSeq | apply goReg | apply goSeqN | apply goSeqR | apply goSkip | apply goRet | apply goNil | apply goBlock | apply goExit | apply goBlkN | apply goBlkR | apply goBlkE | apply goSeqE | apply goLoopR | apply goLoopE | refine xOp ?_ | refine xOp0 ?_ | refine xYes ?_ | refine xNo ?_ | refine xNoU ?_ | refine xIfT ?_ | refine xIfF ?_ | refine xIf ?_ ?_ | refine xSplit ?_ ?_ | refine xIfQ ?_ ?_ | refine xSplitQ ?_ ?_ | refine xBlkX ?_ | intro _)
      apply goDrw
      iterate 9 (apply goTOp; (· (simp [*]; try exact rfl)); (· exact rfl))
      apply goTOp0; (· (simp [*]; try exact rfl)); (· exact rfl)
      refine goTNil (by simp [again, XG_none, l1, l1', l1'']) ?_
      repeat' (first | apply goSeq | apply goReg | apply goSeqN | apply goSeqR | apply goSkip | apply goRet | apply goNil | apply goBlock | apply goExit | apply goBlkN | apply goBlkR | apply goBlkE | apply goSeqE | apply goLoopR | apply goLoopE | refine xOp ?_ | refine xOp0 ?_ | refine xYes ?_ | refine xNo ?_ | refine xNoU ?_ | refine xIfT ?_ | refine xIfF ?_ | refine xIf ?_ ?_ | refine xSplit ?_ ?_ | refine xIfQ ?_ ?_ | refine xSplitQ ?_ ?_ | refine xBlkX ?_ | intro _)
      refine goLoopN (n - (i + 1)) (by omega) ⟨i + 1, L.set i y, rfl, by omega, by simp [hLn], rfl, rfl, rfl, rfl, rfl, rfl, x4.out, hc3, d03.out, d33.out, hr3.out, by rw [← trF_B]; exact hd3.out, ?_⟩
      intro j hj
      by_cases hji : j = i
      · subst hji
        rw [hmi.out j hin, hval'.out]
        simp [nth, hLn, hin]
      · rw [← hL.out j (by omega)]
        simp only [nth, Int.toNat_natCast, List.getD_eq_getElem?_getD]
        rw [List.getElem?_set_ne (fun e => hji e.symm)]
    · have hin' : ¬ (i : Int) < n := by omega
      have d0' := d0.at'
      have st := st40 (x := shv) (y := dav) d0' hone hone2
      have hkp : ∀ b' ver', ver' ≠ q0 → Keeps G (G.put p0 ⟨q0, [shv, dav], true, true⟩) b' ver' := fun b' ver' h => Keeps.put d0' h
      have lr := ld40 (at_put_same (k' := ⟨q0, [shv, dav], true, true⟩) d0' rfl)
      have hp := put_ext (cs := [shv, dav]) hw hx hHc d0'
      have hLD : L = D := by
        apply List.ext_getElem
        · rw [hLn, hml.out]
        · intro j h1 h2
          have := hL.out j (by omega)
          simpa [nth, h1, h2] using this
      subst hLD
      replace d0 := Hide.mk d0
      replace d3 := Hide.mk d3
      replace d0' := Hide.mk d0'
      replace hkp := Hide.mk hkp
      replace hx := Hide.mk hx
      replace hd := Hide.mk hd
      replace hr := Hide.mk hr
      replace hp := Hide.mk hp
      repeat' (first | apply goSeq | apply goReg | apply goSeqN | apply goSeqR | apply goSkip | apply goRet | apply goNil | apply goBlock | apply goExit | apply goBlkN | apply goBlkR | apply goBlkE | apply goSeqE | apply goLoopR | apply goLoopE | refine xOp ?_ | refine xOp0 ?_ | refine xYes ?_ | refine xNo ?_ | refine xNoU ?_ | refine xIfT ?_ | refine xIfF ?_ | refine xIf ?_ ?_ | refine xSplit ?_ ?_ | refine xIfQ ?_ ?_ | refine xSplitQ ?_ ?_ | refine xBlkX ?_ | intro _)
      have hlo : ∀ p ∈ b1 ++ b2, p.2 ≠ q0 := fun p hp => by
        rcases List.mem_append.1 hp with hp | hp
        · have := (f1.out.2 p hp).1; omega
        · have := (f2.out.2 p hp).1; omega
      refine goEndR (vs := [.agg [shv, dav]]) (bs := b1 ++ b2) (d := q3) (t := .agg [clT sv s, trF L]) hw hp.out.pre ?_ ?_ (by simp) (by simp [rs138, lr]) rfl hv.out
      · refine rep_agg2.2 ⟨shv, dav, b1, b2, rfl, ?_, ?_, rfl⟩
        · exact rep_down _ (c0 := 0) ((clT_is hs.out).ok 0) (Nat.zero_le _) (by omega) (Rep.keep (clT sv s) (fun p hp => hkp.out p.1 p.2 (hlo p (by simp [hp]))) hr.out)
        · exact rep_down _ (c0 := 0) (okT_F 0 _) (Nat.zero_le _) (by omega) (Rep.keep (trF L) (fun p hp => hkp.out p.1 p.2 (hlo p (by simp [hp]))) hd.out)
      · exact (f1.out.wide (by omega) (Nat.le_refl _)).app f2.out (by omega) h12
  · cases hv
/- Walks: filled tensors; parts of tensors. -/
@[simp] theorem xdo_mkf {E : Env} {sh : Bool} {s : Sl} {H : Hp} (g : Nat) (caps : Array Operand) : xdo E T sh (.makeFunc (.func g) #[] caps) s H = some (.func g (caps.toList.map (ev s)), H) := by simp [xdo, aop]
theorem abox_one {x : AV} (H : Hp) (h : x.one = true) : abox x H = some (.ptr H.bs.length H.c 0, H.new [x]) := by
  have hx : x.cells = [x] := by cases x <;> first | rfl | cases h
  simp [abox, hx, h]
theorem rep_tupI {c : Nat} {H : Hp} {a : Tr} {n : Int} {x : AV} {bs : List (Nat × Nat)} : Rep c H (.tup [a, .at (.int .i64 n)]) (.tup [x, .int .i64 n]) bs ↔ Rep c H a x bs := by
  simp only [Rep, Reps]
  constructor
  · rintro ⟨vs, e, v, vs', b1, b2, rfl, h1, ⟨w, vs'', b3, b4, rfl, ⟨rfl, rfl, _⟩, ⟨rfl, rfl⟩, rfl⟩, rfl⟩
    cases e
    simpa using h1
  · intro h
    exact ⟨_, rfl, x, _, bs, [], rfl, h, ⟨_, [], [], [], rfl, ⟨rfl, rfl, rfl⟩, ⟨rfl, rfl⟩, rfl⟩, by simp⟩
/-- No tensor, and why. -/
def zeroT (e : Int) : Tr := .tup [.agg [.at .nilS, .at .nilS], .at (.int .i64 e)]
def okTn (a b : Tr) : Tr := .tup [.agg [a, b], .at (.int .i64 0)]
theorem rep_zero (c : Nat) (H : Hp) (e : Int) : Rep c H (zeroT e) (.tup [.agg [.nilS, .nilS], .int .i64 e]) [] := by
  unfold zeroT
  rw [rep_tupI, rep_agg2]
  exact ⟨_, _, [], [], rfl, by simp [Rep, old], by simp [Rep, old], rfl⟩
theorem mk_zero (H : Hp) (e : Int) : mk (zeroT e) H = (.tup [.agg [.nilS, .nilS], .int .i64 e], H) := by simp [zeroT, mk, mks]
theorem mk_okTn (H : Hp) (a b : Tr) : mk (okTn a b) H = (.tup [(mk (.agg [a, b]) H).1, .int .i64 0], (mk (.agg [a, b]) H).2) := by simp [okTn, mk, mks]
/-- A filled tensor. -/
def fillT (s : AV) (l : List Int) (n : Int) : Tr := if shapeOK l = true then okTn (clT s l) (trF (madeL (fun _ => n) l)) else zeroT 13
def F94 (args : List AV) (H : Hp) : Option (AV × Hp) := match args with
  | [s, .int .i64 n] => (ints H s).bind fun l => if notMt s = true ∧ l.length < 1099511627776 then some (mk (fillT s l n) H) else none
  | _ => none
set_option maxHeartbeats 1000000 in
theorem snd94 : Sound Try.prog 94 (FSem.eff F94).run := by
  refine sound_of hT (EOK_cons snd90 (EOK_cons snd138 (EOK_nil _))) mixed A94 Try.func94 hb94 (by kernel_rfl) (by kernel_rfl) (by kernel_rfl) (by kernel_rfl) sh94 2 (by kernel_rfl) rs94 hr94 ?_
  intro args H r H' hw h
  have hv : F94 args H = some (r, H') := h
  clear h
  unfold F94 at hv
  split at hv
  · rename_i sv n
    obtain ⟨s, hs, hv⟩ := Option.bind_eq_some_iff.1 hv
    split at hv
    rotate_left
    · cases hv
    rename_i hmax
    obtain ⟨hmt, hmax⟩ := hmax
    replace hv := Option.some.inj hv
    have hbx := abox_one (x := .int .i64 n) H rfl
    have x0 : Ext H (H.new [.int .i64 n]) := (Ext.refl hw).new _
    have a0 := new_at H [AV.int .i64 n]
    have hvlt : H.c < (H.new [AV.int .i64 n]).c := Nat.lt_succ_self _
    generalize hH0 : H.new [.int .i64 n] = H0 at *
    generalize hp0 : H.bs.length = p0 at *
    generalize hq0 : H.c = q0 at *
    have x1 : Ext H0 (H0.new [.nilS, .nilS]) := (Ext.refl x0.wf).new _
    have a1 := new_at H0 [.nilS, .nilS]
    have hq1 : q0 < H0.c := hvlt
    have c1 : OwnC H0 (H0.new [.nilS, .nilS]) H0.bs.length H0.c [.nilS, .nilS] := ⟨Nat.le_refl _, a1⟩
    have hq1lt : H0.c < (H0.new [AV.nilS, AV.nilS]).c := Nat.lt_succ_self _
    generalize hH1 : H0.new [.nilS, .nilS] = H1 at *
    generalize hp1 : H0.bs.length = p1 at *
    generalize hq1' : H0.c = q1 at *
    have x01 : Ext H H1 := x0.trans x1
    have hs1 := ints_ext x01.pre hs
    have hHc : H.c ≤ q1 := by omega
    refine ⟨rfl, go ?_⟩
    unfold c94
    simp only [argSl]
    replace hv := Hide.mk hv
    replace hs := Hide.mk hs
    replace x0 := Hide.mk x0
    replace x1 := Hide.mk x1
    replace x01 := Hide.mk x01
    replace a0 := Hide.mk a0
    replace c1 := Hide.mk c1
    rcases hok : shapeOK s with _ | _
    · have st := st40 (x := .nilS) (y := .nilS) c1.out.at' rfl rfl
      have lr := ld40 (at_put_same (k' := ⟨q1, [.nilS, .nilS], true, true⟩) c1.out.at' rfl)
      have hp := put_ext (cs := [.nilS, .nilS]) hw x01.out hHc c1.out.at'
      replace hp := Hide.mk hp
      replace a1 := Hide.mk a1
      repeat' (first | apply goSeq | apply goReg | apply goSeqN | apply goSeqR | apply goSkip | apply goRet | apply goNil | apply goBlock | apply goExit | apply goBlkN | apply goBlkR | apply goBlkE | apply goSeqE | apply goLoopR | apply goLoopE | refine xOp ?_ | refine xOp0 ?_ | refine xYes ?_ | refine xNo ?_ | refine xNoU ?_ | refine xIfT ?_ | refine xIfF ?_ | refine xIf ?_ ?_ | refine xSplit ?_ ?_ | refine xIfQ ?_ ?_ | refine xSplitQ ?_ ?_ | refine xBlkX ?_ | intro _)
      refine goEndR (vs := [.agg [.nilS, .nilS], .int .i64 13]) (bs := []) (d := H.c) (t := zeroT 13) hw hp.out.pre (rep_zero _ _ _) (Fresh.nil _ _) (by simp) (by simp [rs94, lr]) rfl ?_
      rw [← hv.out]; simp [fillT, hok]
    · have hcb : cbF H1 (.func 139 [.ptr p0 q0 0]) s.length = some (fun _ => n) := by
        have : aload T 2 (.ptr p0 q0 0) H1 = some (.int .i64 n) := by simp [aload, T2, x1.out.pre.at a0.out]
        simp only [cbF, this]
      have e138 : F138 [sv, .func 139 [.ptr p0 q0 0]] H1 = some (mk (.agg [clT sv s, trF (madeL (fun _ => n) s)]) H1) := by
        show (ints H1 sv).bind _ = _
        rw [hs1, Option.bind_some, hcb, Option.bind_some, if_pos ⟨hmt, hmax⟩]
      obtain ⟨bs, r1, f1, x2, t2⟩ := mk_tens (H := H1) x01.out.wf (a := clT sv s) (b := trF (madeL (fun _ => n) s)) (clT_is hs1) (.inr (.inl rfl)) (by omega) (by rw [madeL_len]; have := sizeOf_le s; omega)
      generalize hr1 : mk (.agg [clT sv s, trF (madeL (fun _ => n) s)]) H1 = tt at *
      obtain ⟨tv, H2⟩ := tt
      simp only at r1 f1 x2 t2
      obtain ⟨shv, dav, b1, b2, rfl, rs1, rd1, hbs⟩ := rep_agg2.1 r1
      obtain ⟨_, _, hag, hsi, hdi⟩ := tens_some t2
      cases hag
      have hone := ints_one' hsi
      have hone2 := ints_one' hdi
      have c2 := c1.out.ext x2.pre
      have st := st40 (x := shv) (y := dav) c2.at' hone hone2
      have lr := ld40 (at_put_same (k' := ⟨q1, [shv, dav], true, true⟩) c2.at' rfl)
      have hkp : ∀ b' ver', ver' ≠ q1 → Keeps H2 (H2.put p1 ⟨q1, [shv, dav], true, true⟩) b' ver' := fun b' ver' h => Keeps.put c2.at' h
      have hp := put_ext (cs := [shv, dav]) hw (x01.out.trans x2) hHc c2.at'
      replace hp := Hide.mk hp
      replace a1 := Hide.mk a1
      replace r1 := Hide.mk r1
      replace f1 := Hide.mk f1
      replace hkp := Hide.mk hkp
      replace c2 := Hide.mk c2
      replace x2 := Hide.mk x2
      clear rs1 rd1 hsi hdi t2 hcb hr1
      repeat' (first | apply goSeq | apply goReg | apply goSeqN | apply goSeqR | apply goSkip | apply goRet | apply goNil | apply goBlock | apply goExit | apply goBlkN | apply goBlkR | apply goBlkE | apply goSeqE | apply goLoopR | apply goLoopE | refine xOp ?_ | refine xOp0 ?_ | refine xYes ?_ | refine xNo ?_ | refine xNoU ?_ | refine xIfT ?_ | refine xIfF ?_ | refine xIf ?_ ?_ | refine xSplit ?_ ?_ | refine xIfQ ?_ ?_ | refine xSplitQ ?_ ?_ | refine xBlkX ?_ | intro _)
      refine goEndR (vs := [.agg [shv, dav], .int .i64 0]) (bs := bs) (d := H2.c) (t := okTn (clT sv s) (trF (madeL (fun _ => n) s))) hw hp.out.pre ?_ ?_ (by simp) (by simp [rs94, lr]) rfl ?_
      · unfold okTn
        show Rep _ _ _ (AV.tup [_, _]) _
        rw [rep_tupI]
        have := Rep.keep _ (fun p hp => hkp.out p.1 p.2 (by have := (f1.out.2 p hp).1; omega)) r1.out
        exact rep_down _ (c0 := 0) (by simp [okT, okTs, (clT_is hs.out).ok, okT_F]) (Nat.zero_le _) (by omega) this
      · exact f1.out.wide (by omega) (Nat.le_refl _)
      · rw [← hv.out]; simp [fillT, hok]
  · cases hv
/- Walks: what may be cut out; slices of tensors; a device's part. -/
def slGo : List Int → List Int → List Int → Int
  | n :: s, a :: f, z :: q => if a < 0 ∨ n < a ∨ z < 0 ∨ w (n - a) < z then 1 else slGo s f q
  | _, _, _ => 0
/-- May it be cut out? -/
def slicedL (s f q : List Int) : Int := if f.length ≠ s.length ∨ q.length ≠ s.length then 1 else slGo s f q
def F160 (args : List AV) (H : Hp) : Option AV := match args with
  | [a, b, c] => (ints H a).bind fun s => (ints H b).bind fun f => (ints H c).map fun q => .int .i64 (slicedL s f q)
  | _ => none
set_option maxHeartbeats 1000000 in
theorem snd160 : Sound Try.prog 160 (FSem.pure F160).run := by
  refine sound_of hT (EOK_nil _) mixed A160 Try.func160 hb160 (by kernel_rfl) (by kernel_rfl) (by kernel_rfl) (by kernel_rfl) sh160 3 (by kernel_rfl) rs160 hr160 ?_
  intro args H r H' hw h
  obtain ⟨rfl, hv⟩ := pureAt h
  clear h
  unfold F160 at hv
  split at hv
  · rename_i a b c
    obtain ⟨s, hs, hv⟩ := Option.bind_eq_some_iff.1 hv
    obtain ⟨f, hf, hv⟩ := Option.bind_eq_some_iff.1 hv
    obtain ⟨q, hq, hv⟩ := Option.map_eq_some_iff.1 hv
    cases hv
    have hlen := alenS_ints hs
    have hlen2 := alenS_ints hf
    have hlen3 := alenS_ints hq
    have hb := ints_len hs
    have hix := aidxS_ints hs .i64
    have hld := aload_nth T3 rfl hs
    have hix2 := aidxS_ints hf .i64
    have hld2 := aload_nth T3 rfl hf
    have hix3 := aidxS_ints hq .i64
    have hld3 := aload_nth T3 rfl hq
    refine ⟨rfl, go ?_⟩
    unfold c160
    simp only [argSl]
    simp only [← aidx22, ← alen22] at hix hlen hix2 hlen2 hix3 hlen3
    clear hs hf hq
    by_cases h1 : f.length = s.length
    · by_cases h2 : q.length = s.length
      · have hres : slicedL s f q = slGo s f q := by simp [slicedL, h1, h2]
        rw [hres]
        have h1i : (f.length : Int) = s.length := by omega
        have h2i : (q.length : Int) = s.length := by omega
        rw [h1i] at hix2 hld2 hlen2
        rw [h2i] at hix3 hld3 hlen3
        have h1h := Hide.mk h1
        have h2h := Hide.mk h2
        clear h1 h2 h1i h2i hres
        repeat' (first | apply goSeq | apply goReg | apply goSeqN | apply goSeqR | apply goSkip | apply goRet | apply goNil | apply goBlock | apply goExit | apply goBlkN | apply goBlkR | apply goBlkE | apply goSeqE | apply goLoopR | apply goLoopE | refine xOp ?_ | refine xOp0 ?_ | refine xYes ?_ | refine xNo ?_ | refine xNoU ?_ | refine xIfT ?_ | refine xIfF ?_ | refine xIf ?_ ?_ | refine xSplit ?_ ?_ | refine xIfQ ?_ ?_ | refine xSplitQ ?_ ?_ | refine xBlkX ?_ | intro _)
        refine goLoop (fun m s1 H1 => H1 = H' ∧ ∃ (i : Nat), m = s.length - i ∧ i ≤ s.length ∧ get s1 1 = b ∧ get s1 2 = c ∧ get s1 21 = a ∧ get s1 22 = .int .i64 s.length ∧ get s1 23 = .int .i64 i ∧ slGo (s.drop i) (f.drop i) (q.drop i) = slGo s f q) s.length ?_ ?_
        · exact ⟨rfl, 0, rfl, Nat.zero_le _, rfl, rfl, rfl, rfl, rfl, by simp⟩
        · rintro m s1 H1 ⟨rfl, i, hm, hi, g1, g2, g3, g4, g5, hgo⟩
          simp only [cut_cons, cut_nil, g1, g2, g3, g4, g5]
          clear g1 g2 g3 g4 g5 hlen hlen2 hlen3
          have hi0 : (0 : Int) ≤ i := Int.natCast_nonneg i
          have hw1 : w ((i : Int) + 1) = ((i + 1 : Nat) : Int) := w_id (by omega)
          have hd : i < s.length → s.drop i = nth s i :: s.drop (i + 1) := fun h => drop_nth s i h
          have hd2 : i < s.length → f.drop i = nth f i :: f.drop (i + 1) := fun h => drop_nth f i (by have := h1h.out; omega)
          have hd3 : i < s.length → q.drop i = nth q i :: q.drop (i + 1) := fun h => drop_nth q i (by have := h2h.out; omega)
          have hnil : ¬ i < s.length → s.drop i = [] := fun h => List.drop_of_length_le (by omega)
          replace hgo := Hide.mk hgo
          replace hd := Hide.mk hd
          replace hd2 := Hide.mk hd2
          replace hd3 := Hide.mk hd3
          replace hnil := Hide.mk hnil
          repeat' (first | apply goSeq | apply goReg | apply goSeqN | apply goSeqR | apply goSkip | apply goRet | apply goNil | apply goBlock | apply goExit | apply goBlkN | apply goBlkR | apply goBlkE | apply goSeqE | apply goLoopR | apply goLoopE | refine xOp ?_ | refine xOp0 ?_ | refine xYes ?_ | refine xNo ?_ | refine xNoU ?_ | refine xIfT ?_ | refine xIfF ?_ | refine xIf ?_ ?_ | refine xSplit ?_ ?_ | refine xIfQ ?_ ?_ | refine xSplitQ ?_ ?_ | refine xBlkX ?_ | intro _)
          all_goals replace hgo := hgo.out
          all_goals (try simp only [Bool.not_eq_true', decide_eq_false_iff_not, Bool.not_eq_false', decide_eq_true_eq] at *)
          all_goals first
            | (refine goEnd hw (Pre.refl _) (by simp) (by simp [rs160]; exact rfl) rfl ?_; rw [← hgo, hd.out (by assumption), hd2.out (by assumption), hd3.out (by assumption)]; simp [slGo, *]; done)
            | (refine goEnd hw (Pre.refl _) (by simp) (by simp [rs160]; exact rfl) rfl ?_; rw [← hgo, hnil.out (by assumption)]; simp [slGo]; done)
            | (refine goLoopN (s.length - (i + 1)) (by omega) ⟨rfl, i + 1, rfl, by omega, rfl, rfl, rfl, rfl, rfl, ?_⟩; rw [← hgo, hd.out (by assumption), hd2.out (by assumption), hd3.out (by assumption)]; simp only [slGo]; rw [if_neg (by omega)])
      · repeat' (first | apply goSeq | apply goReg | apply goSeqN | apply goSeqR | apply goSkip | apply goRet | apply goNil | apply goBlock | apply goExit | apply goBlkN | apply goBlkR | apply goBlkE | apply goSeqE | apply goLoopR | apply goLoopE | refine xOp ?_ | refine xOp0 ?_ | refine xYes ?_ | refine xNo ?_ | refine xNoU ?_ | refine xIfT ?_ | refine xIfF ?_ | refine xIf ?_ ?_ | refine xSplit ?_ ?_ | refine xIfQ ?_ ?_ | refine xSplitQ ?_ ?_ | refine xBlkX ?_ | intro _)
        · refine goEnd hw (Pre.refl _) (by simp) (by simp [rs160]; exact rfl) rfl ?_
          simp [slicedL, h2]
        · rename_i hc
          simp at hc
          omega
    · repeat' (first | apply goSeq | apply goReg | apply goSeqN | apply goSeqR | apply goSkip | apply goRet | apply goNil | apply goBlock | apply goExit | apply goBlkN | apply goBlkR | apply goBlkE | apply goSeqE | apply goLoopR | apply goLoopE | refine xOp ?_ | refine xOp0 ?_ | refine xYes ?_ | refine xNo ?_ | refine xNoU ?_ | refine xIfT ?_ | refine xIfF ?_ | refine xIf ?_ ?_ | refine xSplit ?_ ?_ | refine xIfQ ?_ ?_ | refine xSplitQ ?_ ?_ | refine xBlkX ?_ | intro _)
      all_goals first
        | (refine goEnd hw (Pre.refl _) (by simp) (by simp [rs160]; exact rfl) rfl ?_; simp [slicedL, h1]; done)
        | (rename_i u1 u2; exfalso; have : (f.length : Int) = s.length := by simpa using u1
           omega)
  · cases hv
@[simp] theorem F160_at (a b c : AV) (H : Hp) : F160 [a, b, c] H = (ints H a).bind fun s => (ints H b).bind fun f => (ints H c).map fun q => .int .i64 (slicedL s f q) := rfl
/-- A slice of a tensor; a: how its shape is made. -/
def sliceT (p : List Int × List Int) (fr sz : List Int) (a : Tr) : Tr :=
  if tOK p = true then (if slicedL p.1 fr sz = 0 then okTn a (trF (madeL (fun at1 => atT p (addL at1 fr)) sz)) else zeroT (slicedL p.1 fr sz)) else zeroT 13
theorem slicedL_len {s f q : List Int} (h : slicedL s f q = 0) : f.length = s.length ∧ q.length = s.length := by
  unfold slicedL at h
  split at h
  · omega
  · rename_i h1
    exact ⟨Decidable.byContradiction fun e => h1 (.inl e), Decidable.byContradiction fun e => h1 (.inr e)⟩
def F134 (args : List AV) (H : Hp) : Option (AV × Hp) := match args with
  | [t, f, z] => (tens H t).bind fun p => (ints H f).bind fun fr => (ints H z).bind fun sz => if notMt z = true then some (mk (sliceT p fr sz (clT z sz)) H) else none
  | _ => none
set_option maxHeartbeats 2000000 in
theorem snd134 : Sound Try.prog 134 (FSem.eff F134).run := by
  refine sound_of hT (EOK_cons snd91 (EOK_cons snd138 (EOK_cons snd160 (EOK_nil _)))) mixed A134 Try.func134 hb134 (by kernel_rfl) (by kernel_rfl) (by kernel_rfl) (by kernel_rfl) sh134 3 (by kernel_rfl) rs134 hr134 ?_
  intro args H r H' hw h
  have hv : F134 args H = some (r, H') := h
  clear h
  unfold F134 at hv
  split at hv
  · rename_i t f z
    obtain ⟨⟨s, d⟩, ht, hv⟩ := Option.bind_eq_some_iff.1 hv
    obtain ⟨fr, hf, hv⟩ := Option.bind_eq_some_iff.1 hv
    obtain ⟨sz, hz, hv⟩ := Option.bind_eq_some_iff.1 hv
    split at hv
    rotate_left
    · cases hv
    rename_i hmt
    have hvv := Hide.mk (Option.some.inj hv)
    clear hv
    obtain ⟨x, y, rfl, hx, hy⟩ := tens_some ht
    simp only at hx hy
    -- boxes
    have hbx := abox_agg H (ints_one' hx) (ints_one' hy)
    have x0 : Ext H (H.new [x, y]) := (Ext.refl hw).new _
    have a0 := new_at H [x, y]
    have hv0 : H.c < (H.new [x, y]).c := Nat.lt_succ_self _
    generalize hH0 : H.new [x, y] = H0 at *
    generalize hp0 : H.bs.length = p0 at *
    generalize hq0 : H.c = q0 at *
    have hfx := abox_one H0 (ints_one' hf)
    have x1 : Ext H0 (H0.new [f]) := (Ext.refl x0.wf).new _
    have a1 := new_at H0 [f]
    have hv1 : H0.c < (H0.new [f]).c := Nat.lt_succ_self _
    generalize hH1 : H0.new [f] = H1 at *
    generalize hp1 : H0.bs.length = p1 at *
    generalize hq1 : H0.c = q1 at *
    have x2 : Ext H1 (H1.new [.nilS, .nilS]) := (Ext.refl x1.wf).new _
    have a2 := new_at H1 [.nilS, .nilS]
    have hv2 : H1.c < (H1.new [AV.nilS, AV.nilS]).c := Nat.lt_succ_self _
    generalize hH2 : H1.new [.nilS, .nilS] = H2 at *
    generalize hp2 : H1.bs.length = p2 at *
    generalize hq2 : H1.c = q2 at *
    have x02 : Ext H H2 := (x0.trans x1).trans x2
    have b0 := x2.pre.at (x1.pre.at a0)
    have b1 := x2.pre.at a1
    have l1 := ld40 b0
    have l2 := ld22 b0 0
    have l3 := ld22 b1 0
    simp only [List.getElem?_cons_zero] at l2 l3
    have ht2 := tens_ext x02.pre ht
    have hf2 := ints_ext x02.pre hf
    have hz2 := ints_ext x02.pre hz
    have hs2 := ints_ext x02.pre hx
    have hHc : H.c ≤ q2 := by omega
    have hwH2 := x02.wf
    refine ⟨rfl, go ?_⟩
    unfold c134
    simp only [argSl]
    replace ht := Hide.mk ht
    replace hz := Hide.mk hz
    replace x0 := Hide.mk x0
    replace x1 := Hide.mk x1
    replace x2 := Hide.mk x2
    replace x02 := Hide.mk x02
    replace b0 := Hide.mk b0
    replace b1 := Hide.mk b1
    clear a0 a1 hf hx hy
    rcases hok : tOK (s, d) with _ | _
    · have st := st40 (x := .nilS) (y := .nilS) a2 rfl rfl
      have lr := ld40 (at_put_same (k' := ⟨q2, [.nilS, .nilS], true, true⟩) a2 rfl)
      have hp := put_ext (cs := [.nilS, .nilS]) hw x02.out hHc a2
      replace hp := Hide.mk hp
      replace a2 := Hide.mk a2
      repeat' (first | apply goSeq | apply goReg | apply goSeqN | apply goSeqR | apply goSkip | apply goRet | apply goNil | apply goBlock | apply goExit | apply goBlkN | apply goBlkR | apply goBlkE | apply goSeqE | apply goLoopR | apply goLoopE | refine xOp ?_ | refine xOp0 ?_ | refine xYes ?_ | refine xNo ?_ | refine xNoU ?_ | refine xIfT ?_ | refine xIfF ?_ | refine xIf ?_ ?_ | refine xSplit ?_ ?_ | refine xIfQ ?_ ?_ | refine xSplitQ ?_ ?_ | refine xBlkX ?_ | intro _)
      refine goEndR (vs := [.agg [.nilS, .nilS], .int .i64 13]) (bs := []) (d := H.c) (t := zeroT 13) hw hp.out.pre (rep_zero _ _ _) (Fresh.nil _ _) (by simp) (by simp [rs134, lr]) rfl ?_
      rw [← hvv.out]; simp [sliceT, hok]
    · by_cases hsl : slicedL s fr sz = 0
      · obtain ⟨hl1, hl2⟩ := slicedL_len hsl
        have hs4 : s.length ≤ 4 := by
          have : shapeOK s = true := by simp [tOK] at hok; exact hok.1
          exact (shapeOK_rng this).1
        have hcb : cbF H2 (.func 161 [.ptr p1 q1 0, .ptr p0 q0 0]) sz.length = some (fun at1 => atT (s, d) (addL at1 fr)) := by
          show (aload T 22 (.ptr p1 q1 0) H2).bind _ = _
          rw [l3, Option.bind_some, hf2, Option.bind_some, l1, Option.bind_some, ht2, Option.bind_some, if_pos (by omega)]
        have e138 : F138 [z, .func 161 [.ptr p1 q1 0, .ptr p0 q0 0]] H2 = some (mk (.agg [clT z sz, trF (madeL (fun at1 => atT (s, d) (addL at1 fr)) sz)]) H2) := by
          show (ints H2 z).bind _ = _
          rw [hz2, Option.bind_some, hcb, Option.bind_some, if_pos ⟨hmt, by omega⟩]
        obtain ⟨bs, r1, f1, x3, t3⟩ := mk_tens (H := H2) hwH2 (a := clT z sz) (b := trF (madeL (fun at1 => atT (s, d) (addL at1 fr)) sz)) (clT_is hz2) (.inr (.inl rfl)) (by omega) (by rw [madeL_len]; have := sizeOf_le sz; omega)
        have hres : sliceT (s, d) fr sz (clT z sz) = okTn (clT z sz) (trF (madeL (fun at1 => atT (s, d) (addL at1 fr)) sz)) := by simp [sliceT, hok, hsl]
        replace hvv := hvv.out
        rw [hres] at hvv
        replace hvv := Hide.mk hvv
        generalize madeL (fun at1 => atT (s, d) (addL at1 fr)) sz = D at *
        generalize hr1 : mk (.agg [clT z sz, trF D]) H2 = tt at *
        obtain ⟨tv, H3⟩ := tt
        simp only at r1 f1 x3 t3
        obtain ⟨shv, dav, b1', b2', rfl, rs1, rd1, hbs⟩ := rep_agg2.1 r1
        obtain ⟨_, _, hag, hsi, hdi⟩ := tens_some t3
        cases hag
        have hone := ints_one' hsi
        have hone2 := ints_one' hdi
        have a3 := x3.pre.at a2
        have st := st40 (x := shv) (y := dav) a3 hone hone2
        have lr := ld40 (at_put_same (k' := ⟨q2, [shv, dav], true, true⟩) a3 rfl)
        have hkp : ∀ b' ver', ver' ≠ q2 → Keeps H3 (H3.put p2 ⟨q2, [shv, dav], true, true⟩) b' ver' := fun b' ver' h => Keeps.put a3 h
        have hp := put_ext (cs := [shv, dav]) hw (x02.out.trans x3) hHc a3
        replace hp := Hide.mk hp
        replace a2 := Hide.mk a2
        replace a3 := Hide.mk a3
        replace r1 := Hide.mk r1
        replace f1 := Hide.mk f1
        replace hkp := Hide.mk hkp
        replace x3 := Hide.mk x3
        clear rs1 rd1 hsi hdi t3 hcb hr1 hres hl1 hl2
        repeat' (first | apply goSeq | apply goReg | apply goSeqN | apply goSeqR | apply goSkip | apply goRet | apply goNil | apply goBlock | apply goExit | apply goBlkN | apply goBlkR | apply goBlkE | apply goSeqE | apply goLoopR | apply goLoopE | refine xOp ?_ | refine xOp0 ?_ | refine xYes ?_ | refine xNo ?_ | refine xNoU ?_ | refine xIfT ?_ | refine xIfF ?_ | refine xIf ?_ ?_ | refine xSplit ?_ ?_ | refine xIfQ ?_ ?_ | refine xSplitQ ?_ ?_ | refine xBlkX ?_ | intro _)
        refine goEndR (vs := [.agg [shv, dav], .int .i64 0]) (bs := bs) (d := H3.c) (t := okTn (clT z sz) (trF D)) hw hp.out.pre ?_ ?_ (by simp) (by simp [rs134, lr]) rfl hvv.out
        · unfold okTn
          show Rep _ _ _ (AV.tup [_, _]) _
          rw [rep_tupI]
          have := Rep.keep _ (fun p hp => hkp.out p.1 p.2 (by have := (f1.out.2 p hp).1; omega)) r1.out
          exact rep_down _ (c0 := 0) (by simp [okT, okTs, (clT_is hz.out).ok, okT_F]) (Nat.zero_le _) (by omega) this
        · exact f1.out.wide (by omega) (Nat.le_refl _)
      · have st := st40 (x := .nilS) (y := .nilS) a2 rfl rfl
        have lr := ld40 (at_put_same (k' := ⟨q2, [.nilS, .nilS], true, true⟩) a2 rfl)
        have hp := put_ext (cs := [.nilS, .nilS]) hw x02.out hHc a2
        replace hp := Hide.mk hp
        replace a2 := Hide.mk a2
        repeat' (first | apply goSeq | apply goReg | apply goSeqN | apply goSeqR | apply goSkip | apply goRet | apply goNil | apply goBlock | apply goExit | apply goBlkN | apply goBlkR | apply goBlkE | apply goSeqE | apply goLoopR | apply goLoopE | refine xOp ?_ | refine xOp0 ?_ | refine xYes ?_ | refine xNo ?_ | refine xNoU ?_ | refine xIfT ?_ | refine xIfF ?_ | refine xIf ?_ ?_ | refine xSplit ?_ ?_ | refine xIfQ ?_ ?_ | refine xSplitQ ?_ ?_ | refine xBlkX ?_ | intro _)
        refine goEndR (vs := [.agg [.nilS, .nilS], .int .i64 (slicedL s fr sz)]) (bs := []) (d := H.c) (t := zeroT (slicedL s fr sz)) hw hp.out.pre (rep_zero _ _ _) (Fresh.nil _ _) (by simp) (by simp [rs134, lr]) rfl ?_
        rw [← hvv.out]; simp [sliceT, hok, hsl]
  · cases hv
/- Walks: a device's part. -/
theorem clT_S (H : Hp) (l : List Int) : clT (mkS H l).1 l = trS l := by
  unfold mkS
  by_cases h : l = []
  · subst h; simp [clT]
  · rw [if_neg h]; simp [clT, trC, h]
theorem notMt_S (H : Hp) (l : List Int) : notMt (mkS H l).1 = true := by
  unfold mkS
  split <;> rfl
/-- A device's part. -/
noncomputable def partT (p : List Int × List Int) (sz sp : List Int) (d : Int) : Tr :=
  if mayL p sz sp = 0 then (if d < 0 ∨ devs sz ≤ d then zeroT 23 else sliceT p (fromL p.1 sz sp d) (sizeL p.1 sz sp d) (trS (sizeL p.1 sz sp d))) else zeroT (mayL p sz sp)
noncomputable def F81 (args : List AV) (H : Hp) : Option (AV × Hp) := match args with
  | [t, a, b, .int .i64 d] => (tens H t).bind fun p => (ints H a).bind fun sz => (ints H b).map fun sp => mk (partT p sz sp d) H
  | _ => none
theorem sliceT_ok (c : Nat) (p : List Int × List Int) (fr sz : List Int) (a : Tr) (l : List Int) (ha : isL a l) : okT c (sliceT p fr sz a) = true := by
  unfold sliceT
  split
  · split
    · simp [okTn, okT, okTs, ha.ok, okT_F, old]
    · simp [zeroT, okT, okTs, old]
  · simp [zeroT, okT, okTs, old]
theorem mk_tupI (H : Hp) (a : Tr) (e : Int) : mk (.tup [a, .at (.int .i64 e)]) H = (.tup [(mk a H).1, .int .i64 e], (mk a H).2) := by simp [mk, mks]
theorem repI_one {c : Nat} {H : Hp} {t : Tr} {x : AV} {bs : List (Nat × Nat)} {l : List Int} (ht : isL t l ∨ t = .at .nilS) (h : Rep c H t x bs) : x.one = true := by
  have hF : ∀ {l : List Int}, Rep c H (trF l) x bs → x.one = true := fun h => by obtain ⟨b, ver, rfl, _⟩ := rep_F.1 h; rfl
  have hS : ∀ {l : List Int}, Rep c H (trS l) x bs → x.one = true := fun h => by rcases rep_S.1 h with ⟨_, rfl, _⟩ | ⟨b, ver, rfl, _⟩ <;> rfl
  rcases ht with (rfl | rfl | rfl) | rfl
  · exact hS h
  · exact hF h
  · unfold trC at h
    split at h
    · exact hF h
    · exact hS h
  · simp only [Rep] at h
    rw [h.1]; rfl
theorem sliceT_rep {c : Nat} {H : Hp} {p : List Int × List Int} {fr sz : List Int} {a : Tr} {l : List Int} (ha : isL a l) {v : AV} {bs : List (Nat × Nat)} (h : Rep c H (sliceT p fr sz a) v bs) :
    ∃ (x y : AV) (e : Int), v = .tup [.agg [x, y], .int .i64 e] ∧ x.one = true ∧ y.one = true := by
  have key : ∀ (a b : Tr) (e : Int) {l m : List Int}, (isL a l ∨ a = .at .nilS) → (isL b m ∨ b = .at .nilS) → Rep c H (.tup [.agg [a, b], .at (.int .i64 e)]) v bs → ∃ (x y : AV) (e : Int), v = .tup [.agg [x, y], .int .i64 e] ∧ x.one = true ∧ y.one = true := by
    intro a b e l m ha hb h
    have h0 := h
    simp only [Rep, Reps] at h
    obtain ⟨vs, rfl, v1, vs', b1, b2, rfl, ⟨ws, rfl, x, ws', b3, b4, rfl, h1, ⟨y, ws'', b5, b6, rfl, h2, ⟨rfl, rfl⟩, rfl⟩, rfl⟩, ⟨w1, vs'', b7, b8, rfl, ⟨rfl, rfl, _⟩, ⟨rfl, rfl⟩, rfl⟩, rfl⟩ := h
    exact ⟨x, y, e, rfl, repI_one ha h1, repI_one hb h2⟩
  unfold sliceT at h
  split at h
  · split at h
    · exact key _ _ _ (.inl ha) (.inl (.inr (.inl rfl))) h
    · exact key _ _ _ (l := []) (m := []) (.inr rfl) (.inr rfl) h
  · exact key _ _ _ (l := []) (m := []) (.inr rfl) (.inr rfl) h
set_option maxHeartbeats 2000000 in
theorem snd81 : Sound Try.prog 81 (FSem.eff F81).run := by
  refine sound_of hT (EOK_cons snd21 (EOK_cons snd22 (EOK_cons snd87 (EOK_cons snd88 (EOK_cons snd134 (EOK_nil _)))))) mixed A81 Try.func81 hb81 (by kernel_rfl) (by kernel_rfl) (by kernel_rfl) (by kernel_rfl) sh81 4 (by kernel_rfl) rs81 hr81 ?_
  intro args H r H' hw h
  have hv : F81 args H = some (r, H') := h
  clear h
  unfold F81 at hv
  split at hv
  · rename_i t a b dd
    obtain ⟨⟨s, d⟩, ht, hv⟩ := Option.bind_eq_some_iff.1 hv
    obtain ⟨sz, hsz, hv⟩ := Option.bind_eq_some_iff.1 hv
    obtain ⟨sp, hsp, hv⟩ := Option.map_eq_some_iff.1 hv
    have hvv := Hide.mk hv
    clear hv
    obtain ⟨x, y, rfl, hx, hy⟩ := tens_some ht
    simp only at hx hy
    have hbx := abox_agg H (ints_one' hx) (ints_one' hy)
    have x0 : Ext H (H.new [x, y]) := (Ext.refl hw).new _
    have a0 := new_at H [x, y]
    have hv0 : H.c < (H.new [x, y]).c := Nat.lt_succ_self _
    generalize hH0 : H.new [x, y] = H0 at *
    generalize hp0 : H.bs.length = p0 at *
    generalize hq0 : H.c = q0 at *
    have x1 : Ext H0 (H0.new [.nilS, .nilS]) := (Ext.refl x0.wf).new _
    have a1 := new_at H0 [.nilS, .nilS]
    have hv1 : H0.c < (H0.new [AV.nilS, AV.nilS]).c := Nat.lt_succ_self _
    generalize hH1 : H0.new [.nilS, .nilS] = H1 at *
    generalize hp1 : H0.bs.length = p1 at *
    generalize hq1 : H0.c = q1 at *
    have x01 : Ext H H1 := x0.trans x1
    have b0 := x1.pre.at a0
    have l1 := ld40 b0
    have l2 := ld22 b0 0
    simp only [List.getElem?_cons_zero] at l2
    have ht1 := tens_ext x01.pre ht
    have hs1 := ints_ext x01.pre hx
    have hsz1 := ints_ext x01.pre hsz
    have hsp1 := ints_ext x01.pre hsp
    have hHc : H.c ≤ q1 := by omega
    refine ⟨rfl, go ?_⟩
    unfold c81
    simp only [argSl]
    replace x0 := Hide.mk x0
    replace x1 := Hide.mk x1
    replace x01 := Hide.mk x01
    replace b0 := Hide.mk b0
    clear a0 ht hx hy hsz hsp
    have zero : ∀ e : Int, partT (s, d) sz sp dd = zeroT e → mk (zeroT e) H = (r, H') := fun e h => by rw [← h]; exact hvv.out
    by_cases hm : mayL (s, d) sz sp = 0
    · by_cases hdd : dd < 0 ∨ devs sz ≤ dd
      · have st := st40 (x := .nilS) (y := .nilS) a1 rfl rfl
        have lr := ld40 (at_put_same (k' := ⟨q1, [.nilS, .nilS], true, true⟩) a1 rfl)
        have hp := put_ext (cs := [.nilS, .nilS]) hw x01.out hHc a1
        replace hp := Hide.mk hp
        replace a1 := Hide.mk a1
        have hz := zero 23 (by simp [partT, hm, hdd])
        replace hz := Hide.mk hz
        clear zero
        by_cases hd0 : dd < 0
        · clear hdd
          repeat' (first | apply goSeq | apply goReg | apply goSeqN | apply goSeqR | apply goSkip | apply goRet | apply goNil | apply goBlock | apply goExit | apply goBlkN | apply goBlkR | apply goBlkE | apply goSeqE | apply goLoopR | apply goLoopE | refine xOp ?_ | refine xOp0 ?_ | refine xYes ?_ | refine xNo ?_ | refine xNoU ?_ | refine xIfT ?_ | refine xIfF ?_ | refine xIf ?_ ?_ | refine xSplit ?_ ?_ | refine xIfQ ?_ ?_ | refine xSplitQ ?_ ?_ | refine xBlkX ?_ | intro _)
          exact goEndR (vs := [.agg [.nilS, .nilS], .int .i64 23]) (bs := []) (d := H.c) (t := zeroT 23) hw hp.out.pre (rep_zero _ _ _) (Fresh.nil _ _) (by simp) (by simp [rs81, lr]) rfl hz.out
        · have hd1 : devs sz ≤ dd := by omega
          clear hdd
          repeat' (first | apply goSeq | apply goReg | apply goSeqN | apply goSeqR | apply goSkip | apply goRet | apply goNil | apply goBlock | apply goExit | apply goBlkN | apply goBlkR | apply goBlkE | apply goSeqE | apply goLoopR | apply goLoopE | refine xOp ?_ | refine xOp0 ?_ | refine xYes ?_ | refine xNo ?_ | refine xNoU ?_ | refine xIfT ?_ | refine xIfF ?_ | refine xIf ?_ ?_ | refine xSplit ?_ ?_ | refine xIfQ ?_ ?_ | refine xSplitQ ?_ ?_ | refine xBlkX ?_ | intro _)
          exact goEndR (vs := [.agg [.nilS, .nilS], .int .i64 23]) (bs := []) (d := H.c) (t := zeroT 23) hw hp.out.pre (rep_zero _ _ _) (Fresh.nil _ _) (by simp) (by simp [rs81, lr]) rfl hz.out
      · have hd0 : ¬ dd < 0 := fun h => hdd (.inl h)
        have hd1 : ¬ devs sz ≤ dd := fun h => hdd (.inr h)
        have hres : partT (s, d) sz sp dd = sliceT (s, d) (fromL s sz sp dd) (sizeL s sz sp dd) (trS (sizeL s sz sp dd)) := by simp [partT, hm, hdd]
        rw [hres] at hvv
        clear zero hdd hres
        -- where it begins
        have e22 : F22 [x, a, b, .int .i64 dd] H1 = some (mkS H1 (fromL s sz sp dd)) := by
          simp only [F22, hs1, hsz1, hsp1, Option.bind_some, Option.map_some]
        have x2 := mkS_ext x01.out.wf (fromL s sz sp dd)
        have hlf := fromL_len s sz sp dd
        have hfr := ints_of_own (mkS_own H1 (fromL s sz sp dd)) (by omega)
        generalize hFR : fromL s sz sp dd = FR at *
        generalize hr2 : mkS H1 FR = r2 at *
        obtain ⟨fv, H2⟩ := r2
        simp only at x2 hfr
        have b02 := x2.pre.at b0.out
        have l1' := ld40 b02
        have l2' := ld22 b02 0
        simp only [List.getElem?_cons_zero] at l2'
        -- how long it is
        have e21 : F21 [x, a, b, .int .i64 dd] H2 = some (mkS H2 (sizeL s sz sp dd)) := by
          have hs2 := ints_ext x2.pre hs1
          have hsz2 := ints_ext x2.pre hsz1
          have hsp2 := ints_ext x2.pre hsp1
          simp only [F21, hs2, hsz2, hsp2, Option.bind_some, Option.map_some]
        have x3 := mkS_ext x2.wf (sizeL s sz sp dd)
        have hlz := sizeL_len s sz sp dd
        have hzi := ints_of_own (mkS_own H2 (sizeL s sz sp dd)) (by omega)
        have hcl := clT_S H2 (sizeL s sz sp dd)
        have hnm := notMt_S H2 (sizeL s sz sp dd)
        generalize hSZ : sizeL s sz sp dd = SZ at *
        generalize hr3 : mkS H2 SZ = r3 at *
        obtain ⟨zv, H3⟩ := r3
        simp only at x3 hzi hcl hnm
        have b03 := x3.pre.at b02
        have l1'' := ld40 b03
        -- cut out
        have ht3 := tens_ext (x2.pre.trans x3.pre) ht1
        have hfr3 := ints_ext x3.pre hfr
        have e134 : F134 [.agg [x, y], fv, zv] H3 = some (mk (sliceT (s, d) FR SZ (trS SZ)) H3) := by
          show (tens H3 _).bind _ = _
          rw [ht3, Option.bind_some, hfr3, Option.bind_some, hzi, Option.bind_some, if_pos hnm, hcl]
        have x03 : Ext H H3 := (x01.out.trans x2).trans x3
        obtain ⟨bs, r1, f1, x4⟩ := mk_rep (sliceT (s, d) FR SZ (trS SZ)) (c0 := 0) x03.wf (Nat.zero_le _) (sliceT_ok 0 _ _ _ _ SZ (.inl rfl))
        obtain ⟨shv, dav, e, htv, hone, hone2⟩ := sliceT_rep (.inl rfl : isL (trS SZ) SZ) r1
        generalize hr4 : mk (sliceT (s, d) FR SZ (trS SZ)) H3 = r4 at *
        obtain ⟨tv, H4⟩ := r4
        simp only at r1 f1 x4 htv
        subst htv
        have a4 := x4.pre.at (x3.pre.at (x2.pre.at a1))
        have st := st40 (x := shv) (y := dav) a4 hone hone2
        have lr := ld40 (at_put_same (k' := ⟨q1, [shv, dav], true, true⟩) a4 rfl)
        have hkp : ∀ b' ver', ver' ≠ q1 → Keeps H4 (H4.put p1 ⟨q1, [shv, dav], true, true⟩) b' ver' := fun b' ver' h => Keeps.put a4 h
        have hp := put_ext (cs := [shv, dav]) hw (x03.trans x4) hHc a4
        have h13 : H1.c ≤ H3.c := Nat.le_trans x2.c x3.c
        have hq1lt : q1 < H1.c := hv1
        replace hp := Hide.mk hp
        replace a1 := Hide.mk a1
        replace a4 := Hide.mk a4
        replace r1 := Hide.mk r1
        replace f1 := Hide.mk f1
        replace hkp := Hide.mk hkp
        replace x03 := Hide.mk x03
        replace b02 := Hide.mk b02
        replace b03 := Hide.mk b03
        clear hfr hzi hcl hnm ht3 hfr3 x2 x3 x4 hr2 hr3 hr4 hlf hlz hs1
        have hFRh := Hide.mk hFR
        have hSZh := Hide.mk hSZ
        clear hFR hSZ
        repeat' (first | apply goSeq | apply goReg | apply goSeqN | apply goSeqR | apply goSkip | apply goRet | apply goNil | apply goBlock | apply goExit | apply goBlkN | apply goBlkR | apply goBlkE | apply goSeqE | apply goLoopR | apply goLoopE | refine xOp ?_ | refine xOp0 ?_ | refine xYes ?_ | refine xNo ?_ | refine xNoU ?_ | refine xIfT ?_ | refine xIfF ?_ | refine xIf ?_ ?_ | refine xSplit ?_ ?_ | refine xIfQ ?_ ?_ | refine xSplitQ ?_ ?_ | refine xBlkX ?_ | intro _)
        apply goDrw
        iterate 16 (apply goTOp; (· (simp [*]; try exact rfl)); (· exact rfl))
        apply goTOp0; (· (simp [*]; try exact rfl)); (· exact rfl)
        apply goTOp; (· (simp [*]; try exact rfl)); (· exact rfl)
        refine goTNil (by simp [again, XG_none, l1, l1', l1'', l2, l2']) ?_
        repeat' (first | apply goSeq | apply goReg | apply goSeqN | apply goSeqR | apply goSkip | apply goRet | apply goNil | apply goBlock | apply goExit | apply goBlkN | apply goBlkR | apply goBlkE | apply goSeqE | apply goLoopR | apply goLoopE | refine xOp ?_ | refine xOp0 ?_ | refine xYes ?_ | refine xNo ?_ | refine xNoU ?_ | refine xIfT ?_ | refine xIfF ?_ | refine xIf ?_ ?_ | refine xSplit ?_ ?_ | refine xIfQ ?_ ?_ | refine xSplitQ ?_ ?_ | refine xBlkX ?_ | intro _)
        refine goEndR (vs := [.agg [shv, dav], .int .i64 e]) (bs := bs) (d := H4.c) (t := sliceT (s, d) FR SZ (trS SZ)) hw hp.out.pre ?_ ?_ (by simp) (by simp [rs81, lr]) rfl hvv.out
        · have := Rep.keep _ (fun p hp => hkp.out p.1 p.2 (by have := (f1.out.2 p hp).1; omega)) r1.out
          exact rep_down _ (c0 := 0) (sliceT_ok 0 _ _ _ _ SZ (.inl rfl)) (Nat.zero_le _) (by omega) this
        · exact f1.out.wide (by omega) (Nat.le_refl _)
    · have st := st40 (x := .nilS) (y := .nilS) a1 rfl rfl
      have lr := ld40 (at_put_same (k' := ⟨q1, [.nilS, .nilS], true, true⟩) a1 rfl)
      have hp := put_ext (cs := [.nilS, .nilS]) hw x01.out hHc a1
      replace hp := Hide.mk hp
      replace a1 := Hide.mk a1
      have hz := zero (mayL (s, d) sz sp) (by simp [partT, hm])
      replace hz := Hide.mk hz
      clear zero
      repeat' (first | apply goSeq | apply goReg | apply goSeqN | apply goSeqR | apply goSkip | apply goRet | apply goNil | apply goBlock | apply goExit | apply goBlkN | apply goBlkR | apply goBlkE | apply goSeqE | apply goLoopR | apply goLoopE | refine xOp ?_ | refine xOp0 ?_ | refine xYes ?_ | refine xNo ?_ | refine xNoU ?_ | refine xIfT ?_ | refine xIfF ?_ | refine xIf ?_ ?_ | refine xSplit ?_ ?_ | refine xIfQ ?_ ?_ | refine xSplitQ ?_ ?_ | refine xBlkX ?_ | intro _)
      exact goEndR (vs := [.agg [.nilS, .nilS], .int .i64 (mayL (s, d) sz sp)]) (bs := []) (d := H.c) (t := zeroT (mayL (s, d) sz sp)) hw hp.out.pre (rep_zero _ _ _) (Fresh.nil _ _) (by simp) (by simp [rs81, lr]) rfl hz.out
  · cases hv
/- Lists of tensors, and of other things of several cells. -/
/-- A list that was made by append: n elements of es cells. -/
def trG (n es : Nat) (cs : List Tr) : Tr := if n = 0 then .at .nilS else .sl n es false cs
theorem reps_app {c : Nat} {H : Hp} : ∀ (l m : List Tr) {vs : List AV} {bs : List (Nat × Nat)}, Reps c H (l ++ m) vs bs ↔ ∃ v1 v2 b1 b2, vs = v1 ++ v2 ∧ bs = b1 ++ b2 ∧ Reps c H l v1 b1 ∧ Reps c H m v2 b2 := by
  intro l
  induction l with
  | nil =>
    intro m vs bs
    simp only [List.nil_append, Reps]
    constructor
    · intro h; exact ⟨[], vs, [], bs, rfl, rfl, ⟨rfl, rfl⟩, h⟩
    · rintro ⟨v1, v2, b1, b2, rfl, rfl, ⟨rfl, rfl⟩, h⟩; exact h
  | cons t l ih =>
    intro m vs bs
    simp only [List.cons_append, Reps]
    constructor
    · rintro ⟨v, vs', b1, b2, rfl, h1, h2, rfl⟩
      obtain ⟨v1, v2, b3, b4, rfl, rfl, h3, h4⟩ := (ih m).1 h2
      exact ⟨v :: v1, v2, b1 ++ b3, b4, rfl, by simp, ⟨v, v1, b1, b3, rfl, h1, h3, rfl⟩, h4⟩
    · rintro ⟨v1, v2, b3, b4, rfl, rfl, ⟨v, vs', b1, b2, rfl, h1, h2, rfl⟩, h4⟩
      exact ⟨v, vs' ++ v2, b1, b2 ++ b4, rfl, h1, (ih m).2 ⟨vs', v2, b2, b4, rfl, rfl, h2, h4⟩, by simp⟩
theorem reps_len {c : Nat} {H : Hp} : ∀ (l : List Tr) {vs : List AV} {bs : List (Nat × Nat)}, Reps c H l vs bs → vs.length = l.length := by
  intro l
  induction l with
  | nil => intro vs bs h; simp only [Reps] at h; rw [h.1]; rfl
  | cons t l ih =>
    intro vs bs h
    simp only [Reps] at h
    obtain ⟨v, vs', b1, b2, rfl, _, h2, _⟩ := h
    simp [ih h2]
theorem rep_app {t e es n : Nat} {ie : TI} {c : Nat} {H : Hp} {cs xt : List Tr} {v : AV} {xs : List AV} {bs bx : List (Nat × Nat)} (hD : T.d t = .slice e) (hT : T e = some ie) (hes : ie.size = es) (hb0 : ie.bytes ≠ 0) (hw : Wf H) (hc : c ≤ H.c)
    (h : Rep c H (trG n es cs) v bs) (hx : Reps c H xt xs bx) (hcs : cs.length = n * es) (hxl : xs.length = es) (he0 : es ≠ 0) (hl : (n + 1) * ie.bytes ≤ maxBytes) (hnd : bs.Nodup) (hdis : ∀ p ∈ bs, p ∉ bx) :
    ∃ v' H' bs' bk b' ver', aapp T false t t v (.sl H.bs.length H.c 0 1 es true) (H.new xs) = some (v', H') ∧ Rep c H' (trG (n + 1) es (cs ++ xt)) v' bs' ∧ bs' = bk ++ bx ++ [(b', ver')] ∧ (∀ p ∈ bk, p ∈ bs) ∧ bk.Nodup ∧ H.c ≤ ver' ∧ ver' < H'.c ∧ (∀ b1 v1, (b1, v1) ∉ bs → Keeps H H' b1 v1) ∧ (∀ H0, Wf H0 → Ext H0 H → H0.c ≤ c → Ext H0 H') := by
  have hsx : slCells (H.new xs) (.sl H.bs.length H.c 0 1 es true) = some (1, xs) := by
    simp only [slCells, new_at]
    rw [if_pos (by omega), List.drop_zero, List.take_of_length_le (by omega)]
  by_cases hn : n = 0
  · subst hn
    have hcs0 : cs = [] := List.eq_nil_of_length_eq_zero (by simpa using hcs)
    subst hcs0
    simp only [trG, if_true, Rep] at h
    obtain ⟨rfl, rfl, _⟩ := h
    refine ⟨.sl (H.new xs).bs.length (H.new xs).c 0 1 es false, (H.new xs).new xs, bx ++ [((H.new xs).bs.length, (H.new xs).c)], [], (H.new xs).bs.length, (H.new xs).c, ?_, ?_, by simp, by simp, by simp, Nat.le_succ _, Nat.lt_succ_self _, ?_, ?_⟩
    · simp only [aapp, hD, hT, Option.bind_some, aappend, hsx, hes]
      rw [if_neg (by simp [hxl]), if_neg (by simp), if_pos (by refine ⟨by simpa using hl, hb0⟩)]
    · simp only [trG, Nat.zero_add, Nat.one_ne_zero, if_false, List.nil_append, Rep]
      exact ⟨_, _, xs, bx, rfl, Nat.le_trans hc (Nat.le_succ _), new_at _ _, (hx.ext (Pre.new (Pre.refl _) _)).ext (Pre.new (Pre.refl _) _), rfl⟩
    · intro b1 v1 _ k hk
      exact at_new (at_new hk _) _
    · intro H0 _ he _
      exact (he.new _).new _
  · simp only [trG, if_neg hn, Rep] at h
    obtain ⟨b, ver, vs, bk, rfl, hv, hk, hr, rfl⟩ := h
    have hvl := reps_len _ hr
    have hk' := at_new hk xs
    obtain ⟨g1, g2⟩ := Hp.at_some hk'
    have hb := (List.getElem?_eq_some_iff.1 g1).1
    have hnd' := List.nodup_append.1 hnd
    have hkeep : ∀ b1 v1, (b1, v1) ≠ (b, ver) → Keeps H (⟨(H.new xs).bs.set b ⟨(H.new xs).c, vs ++ xs, true, true⟩, (H.new xs).c + 1⟩ : Hp) b1 v1 := by
      intro b1 v1 hne k hk1
      have hk2 := at_new hk1 xs
      have hbb : b1 ≠ b := by
        rintro rfl
        obtain ⟨q1, q2⟩ := Hp.at_some hk2
        rw [g1] at q1
        cases q1
        exact hne (by rw [← q2])
      have : (⟨(H.new xs).bs.set b ⟨(H.new xs).c, vs ++ xs, true, true⟩, (H.new xs).c + 1⟩ : Hp).at b1 v1 = (H.new xs).at b1 v1 := by
        simp only [Hp.at]; rw [List.getElem?_set_ne (fun e => hbb e.symm)]
      rw [this]; exact hk2
    refine ⟨.sl b (H.new xs).c 0 (n + 1) es false, ⟨(H.new xs).bs.set b ⟨(H.new xs).c, vs ++ xs, true, true⟩, (H.new xs).c + 1⟩, bk ++ bx ++ [(b, (H.new xs).c)], bk, b, (H.new xs).c, ?_, ?_, rfl, by intro p hp; simp [hp], hnd'.1, Nat.le_succ _, Nat.lt_succ_self _, ?_, ?_⟩
    · simp only [aapp, hD, hT, Option.bind_some, aappend, hsx, hk', hes]
      rw [if_neg (by simp [hxl]), if_neg (by simp), if_neg (by simp only [ne_eq, not_true_eq_false, false_or]; rw [hvl, hcs]; omega), if_neg (by simp), if_pos (by simp [hvl, hcs])]
      simp
    · simp only [trG, if_neg (Nat.succ_ne_zero n), Rep]
      refine ⟨b, (H.new xs).c, vs ++ xs, bk ++ bx, rfl, Nat.le_trans hc (Nat.le_succ _), by simp [Hp.at, hb], ?_, rfl⟩
      refine (reps_app cs xt).2 ⟨vs, xs, bk, bx, rfl, rfl, ?_, ?_⟩
      · refine Reps.keep cs (fun p hp => hkeep p.1 p.2 ?_) hr
        intro e
        exact hnd'.2.2 p hp (b, ver) (by simp) e
      · refine Reps.keep xt (fun p hp => hkeep p.1 p.2 ?_) hx
        intro e
        exact hdis (b, ver) (by simp) (by rw [← e]; exact hp)
    · intro b1 v1 hne
      exact hkeep b1 v1 fun e => hne (by rw [e]; simp)
    · intro H0 hw0 he hc0
      have he1 := he.new xs
      refine ⟨?_, ?_, Nat.le_succ_of_le he1.c⟩
      · intro i k hi
        have h1 := he1.pre i k hi
        show ((H.new xs).bs.set b _)[i]? = some k
        by_cases hib : b = i
        · subst hib
          rw [g1] at h1
          cases h1
          exact absurd (hw0 b _ hi) (by show ¬ ver < H0.c; omega)
        · rw [List.getElem?_set_ne hib]; exact h1
      · intro i k hi
        by_cases hib : b = i
        · subst hib
          simp [hb] at hi
          subst hi
          exact Nat.lt_succ_self _
        · simp only [List.getElem?_set_ne hib] at hi
          exact Nat.lt_succ_of_lt (he1.wf i k hi)
/-- A list of tensors. -/
def cellsT (L : List (Tr × Tr)) : List Tr := L.flatMap fun p => [p.1, p.2]
def trTs (L : List (Tr × Tr)) : Tr := trG L.length 2 (cellsT L)
theorem cellsT_len (L : List (Tr × Tr)) : (cellsT L).length = L.length * 2 := by
  induction L with
  | nil => rfl
  | cons p L ih => simp [cellsT] at ih ⊢; omega
theorem trTs_app (L : List (Tr × Tr)) (a b : Tr) : trTs (L ++ [(a, b)]) = trG (L.length + 1) 2 (cellsT L ++ [a, b]) := by
  simp [trTs, cellsT]
def abs45 (v : AV) (H : Hp) : Option (AV × Hp) := (afill (fun j => some (j * 2, 2)) [.nilS, .nilS] [(0, v)]).map fun cs => (.sl H.bs.length H.c 0 1 2 true, H.new cs)
theorem abs45_agg {x y : AV} (H : Hp) (hx : x.one = true) (hy : y.one = true) : abs45 (.agg [x, y]) H = some (.sl H.bs.length H.c 0 1 2 true, H.new [x, y]) := by
  simp [abs45, afill, AV.cells, hx, hy, setAll]
@[simp] theorem xdo_bs45 {E : Env} {sh : Bool} {s : Sl} {H : Hp} (x : Operand) : xdo E T sh (.buildSlice 45 1 #[(0, x)]) s H = abs45 (ev s x) H := by
  simp [xdo, aop, D45, T40, rep, abs45]
/- Plain laws: a device's part lies in its tensor. -/
def cutOK (n k c : Int) : Bool := decide (0 ≤ (cut n k c).1 ∧ (cut n k c).1 ≤ n ∧ 0 ≤ w ((cut n k c).2 - (cut n k c).1) ∧ w ((cut n k c).2 - (cut n k c).1) ≤ w (n - (cut n k c).1))
theorem cut_fin : ((List.range 33).all fun n => (List.range 9).all fun k => (List.range k).all fun c => cutOK n k c) = true := by decide +kernel
theorem cut_ok {n k c : Int} (hn : 0 ≤ n ∧ n ≤ 32) (hk : k ≤ 8) (hc : 0 ≤ c ∧ c < k) : cutOK n k c = true := by
  obtain ⟨n, rfl⟩ : ∃ m : Nat, n = m := ⟨n.toNat, by omega⟩
  obtain ⟨k, rfl⟩ : ∃ m : Nat, k = m := ⟨k.toNat, by omega⟩
  obtain ⟨c, rfl⟩ : ∃ m : Nat, c = m := ⟨c.toNat, by omega⟩
  have h1 := List.all_eq_true.1 cut_fin n (by simp; omega)
  have h2 := List.all_eq_true.1 h1 k (by simp; omega)
  exact List.all_eq_true.1 h2 c (by simp; omega)
theorem atW_in (sz : List Int) (hpos : ∀ j : Nat, j < sz.length → 1 ≤ nth sz j) : ∀ (n : Nat) (d : Int) (out : List Int), n ≤ sz.length → out.length = sz.length → 0 ≤ d → d < 9223372036854775808 → (∀ j : Nat, n ≤ j → j < sz.length → 0 ≤ nth out j ∧ nth out j < nth sz j) → ∀ j : Nat, j < sz.length → 0 ≤ nth (atW sz n d out) j ∧ nth (atW sz n d out) j < nth sz j := by
  intro n
  induction n with
  | zero => intro d out _ _ _ _ h j hj; exact h j (by omega) hj
  | succ n ih =>
    intro d out hn hl h0 hd h j hj
    simp only [atW]
    have hp := hpos n (by omega)
    have h1 : 0 ≤ d.tdiv (nth sz n) := Int.tdiv_nonneg h0 (by omega)
    have h2 : d.tdiv (nth sz n) ≤ d := Int.tdiv_le_self _ h0
    rw [w_id (x := d.tdiv (nth sz n)) (by omega)]
    refine ih _ _ (by omega) (by simp [hl]) h1 (by omega) (fun i h1 h2 => ?_) j hj
    by_cases hi : i = n
    · subst hi
      have : nth (out.set i (d.tmod (nth sz i))) i = d.tmod (nth sz i) := by
        simp only [nth, Int.toNat_natCast, List.getD_eq_getElem?_getD]
        rw [List.getElem?_set_self (by rw [hl]; omega)]; rfl
      rw [this]
      exact tmod_range d _ hp h0
    · have : nth (out.set n (d.tmod (nth sz n))) i = nth out i := by
        simp only [nth, Int.toNat_natCast, List.getD_eq_getElem?_getD]
        rw [List.getElem?_set_ne (fun e => hi e.symm)]
      rw [this]
      exact h i (by omega) h2
theorem prodW_pos_le : ∀ (l : List Int) (n : Int), meshGo n l = true → prodW n l ≤ 8 := by
  intro l
  induction l with
  | nil => intro n h; simpa [meshGo, prodW] using h
  | cons k l ih =>
    intro n h
    simp only [meshGo] at h
    split at h
    · cases h
    · exact ih _ h
theorem devs_le (l : List Int) : devs l ≤ 8 := by
  unfold devs
  split
  · rename_i h
    unfold meshOK at h
    split at h
    · cases h
    · exact prodW_pos_le l 1 h
  · omega
theorem pow8 (k : Nat) (h : k ≤ 3) : ((8 ^ k : Nat) : Int) ≤ 512 := by
  have : 8 ^ k ≤ 8 ^ 3 := Nat.pow_le_pow_right (by decide) h
  have h4 : (8 : Nat) ^ 3 = 512 := by decide
  omega
theorem prodW_pos : ∀ (l : List Int) (n : Int) (k : Nat), k + l.length ≤ 3 → (∀ j : Nat, j < l.length → 1 ≤ nth l j ∧ nth l j ≤ 8) → 1 ≤ n → n ≤ ((8 ^ k : Nat) : Int) → 1 ≤ prodW n l := by
  intro l
  induction l with
  | nil => intro n k _ _ h _; exact h
  | cons x l ih =>
    intro n k hk hr h0 hP
    simp only [prodW]
    have hx := hr 0 (by simp)
    have hx' : 1 ≤ x ∧ x ≤ 8 := by simpa [nth] using hx
    have hk1 := pow8 k (by simp at hk; omega)
    have hk2 := pow8 (k + 1) (by simp at hk; omega)
    have hpk : ((8 ^ (k + 1) : Nat) : Int) = ((8 ^ k : Nat) : Int) * 8 := by rw [Nat.pow_succ]; simp
    have hPx := mul_rng (a := n) (b := x) (A := ((8 ^ k : Nat) : Int)) (B := 8) (by omega) (by omega)
    have hlow : n * 1 ≤ n * x := Int.mul_le_mul_of_nonneg_left hx'.1 (by omega)
    rw [w_id (x := n * x) (by omega)]
    exact ih _ (k + 1) (by simp at hk; omega) (fun j hj => by simpa [nth] using hr (j + 1) (by simpa using hj)) (by omega) (by omega)
theorem devs_pos {l : List Int} (h : meshOK l = true) : 1 ≤ devs l := by
  unfold devs
  rw [if_pos h]
  obtain ⟨h3, hr⟩ := meshOK_pos h
  exact prodW_pos l 1 0 (by omega) hr (by omega) (by simp)
theorem meshAt_in {sz : List Int} {d : Int} (hm : meshOK sz = true) (h0 : 0 ≤ d) (h1 : d < devs sz) (j : Nat) (hj : j < sz.length) : 0 ≤ nth (meshAt sz d) j ∧ nth (meshAt sz d) j < nth sz j := by
  have := devs_le sz
  unfold meshAt
  exact atW_in sz (fun j hj => ((meshOK_pos hm).2 j hj).1) sz.length d _ (Nat.le_refl _) (by simp) h0 (by omega) (fun j h1 h2 => by omega) j hj
theorem cutsGo_at (s sz at' sp : List Int) : ∀ (n i : Nat), i < n → (cutsGo s sz at' sp n)[i]? = some (cutAt s sz at' i (nth sp i)) := by
  intro n
  induction n with
  | zero => intro i h; omega
  | succ n ih =>
    intro i h
    simp only [cutsGo]
    by_cases hi : i < n
    · rw [List.getElem?_append_left (by rw [cutsGo_len]; exact hi), ih i hi]
    · have : i = n := by omega
      subst this
      rw [List.getElem?_append_right (by rw [cutsGo_len]; exact Nat.le_refl _), cutsGo_len]
      simp
theorem slGo_zero : ∀ (s f q : List Int), (∀ i : Nat, i < s.length → 0 ≤ nth f i ∧ nth f i ≤ nth s i ∧ 0 ≤ nth q i ∧ nth q i ≤ w (nth s i - nth f i)) → slGo s f q = 0 := by
  intro s
  induction s with
  | nil => intro f q _; rfl
  | cons n s ih =>
    intro f q h
    cases f with
    | nil => rfl
    | cons a f =>
      cases q with
      | nil => rfl
      | cons z q =>
        have h0 := h 0 (by simp)
        simp [nth] at h0
        simp only [slGo]
        rw [if_neg (by omega)]
        exact ih f q fun i hi => by simpa [nth] using h (i + 1) (by simpa using hi)
/-- A device's part may be cut out. -/
theorem sliced_part {s sz sp : List Int} {d : Int} (h : mayCut s sz sp d) : slicedL s (fromL s sz sp d) (sizeL s sz sp d) = 0 := by
  obtain ⟨hs, hsp, h0, h1⟩ := h
  obtain ⟨hl, hm, hr⟩ := specOK_lt hsp
  have hl' : sp.length = s.length := by omega
  have hf : (fromL s sz sp d).length = s.length := fromL_len' hl' ⟨hs, hsp, h0, h1⟩
  have hq : (sizeL s sz sp d).length = s.length := by
    unfold sizeL cutsL
    rw [if_pos ⟨hs, hsp, h0, h1⟩, List.length_map, cutsGo_len, hl']
  unfold slicedL
  rw [if_neg (by omega)]
  refine slGo_zero s _ _ fun i hi => ?_
  have hc := cutsGo_at s sz (meshAt sz d) sp sp.length i (by omega)
  have e1 : nth (fromL s sz sp d) i = (cutAt s sz (meshAt sz d) i (nth sp i)).1 := by
    unfold fromL cutsL
    rw [if_pos ⟨hs, hsp, h0, h1⟩]
    simp [nth, List.getD_eq_getElem?_getD, hc]
  have e2 : nth (sizeL s sz sp d) i = w ((cutAt s sz (meshAt sz d) i (nth sp i)).2 - (cutAt s sz (meshAt sz d) i (nth sp i)).1) := by
    unfold sizeL cutsL
    rw [if_pos ⟨hs, hsp, h0, h1⟩]
    simp [nth, List.getD_eq_getElem?_getD, hc]
  rw [e1, e2]
  have hsi := (shapeOK_rng hs).2 i hi
  have hri := hr i (by omega)
  unfold cutAt
  by_cases hk : 0 ≤ nth sp i
  · rw [if_pos hk]
    obtain ⟨k, hk'⟩ : ∃ k : Nat, nth sp i = k := ⟨(nth sp i).toNat, by omega⟩
    rw [hk'] at hri ⊢
    have hin := meshAt_in hm h0 h1 k (by omega)
    have hmp := (meshOK_pos hm).2 k (by omega)
    have := cut_ok hsi hmp.2 hin
    simp only [cutOK, decide_eq_true_eq] at this
    exact this
  · rw [if_neg hk]
    simp only [Int.sub_zero]
    rw [w_id (by omega)]
    omega
theorem mayL_zero {p : List Int × List Int} {sz sp : List Int} (h : mayL p sz sp = 0) : tOK p = true ∧ specOK sz sp p.1.length = true := by
  unfold mayL at h
  split at h
  · omega
  · rename_i h1
    split at h
    · omega
    · rename_i h2
      exact ⟨by simpa using h1, by simpa using h2⟩
/-- A part's numbers. -/
noncomputable def partD (p : List Int × List Int) (sz sp : List Int) (d : Int) : List Int := madeL (fun at1 => atT p (addL at1 (fromL p.1 sz sp d))) (sizeL p.1 sz sp d)
theorem partT_ok {p : List Int × List Int} {sz sp : List Int} {d : Int} (h : mayL p sz sp = 0) (h0 : 0 ≤ d) (h1 : d < devs sz) : partT p sz sp d = okTn (trS (sizeL p.1 sz sp d)) (trF (partD p sz sp d)) := by
  obtain ⟨ht, hsp⟩ := mayL_zero h
  have hsh : shapeOK p.1 = true := by simp [tOK] at ht; exact ht.1
  have hs0 := sliced_part (s := p.1) (sz := sz) (sp := sp) (d := d) ⟨hsh, hsp, h0, h1⟩
  unfold partT
  rw [if_pos h, if_neg (by omega)]
  simp only [sliceT, ht, if_true, hs0]
  rfl
/- Walks: all devices' parts. -/
/-- All devices' parts, up to one. -/
noncomputable def partsN (p : List Int × List Int) (sz sp : List Int) (n : Nat) : List (Tr × Tr) := (List.range n).map fun (d : Nat) => (trS (sizeL p.1 sz sp d), trF (partD p sz sp d))
theorem partsN_succ (p : List Int × List Int) (sz sp : List Int) (n : Nat) : partsN p sz sp (n + 1) = partsN p sz sp n ++ [(trS (sizeL p.1 sz sp n), trF (partD p sz sp n))] := by
  simp [partsN, List.range_succ]
theorem partsN_len (p : List Int × List Int) (sz sp : List Int) (n : Nat) : (partsN p sz sp n).length = n := by simp [partsN]
noncomputable def allT (p : List Int × List Int) (sz sp : List Int) : Tr := if mayL p sz sp = 0 then .tup [trTs (partsN p sz sp (devs sz).toNat), .at (.int .i64 0)] else .tup [.at .nilS, .at (.int .i64 (mayL p sz sp))]
noncomputable def F37 (args : List AV) (H : Hp) : Option (AV × Hp) := match args with
  | [t, a, b] => (tens H t).bind fun p => (ints H a).bind fun sz => (ints H b).map fun sp => mk (allT p sz sp) H
  | _ => none
theorem okTs_app (c : Nat) (l m : List Tr) : okTs c (l ++ m) = (okTs c l && okTs c m) := by
  induction l with
  | nil => simp [okTs]
  | cons t l ih => simp [okTs, ih, Bool.and_assoc]
theorem okT_Ts (c : Nat) (p : List Int × List Int) (sz sp : List Int) (n : Nat) : okT c (trTs (partsN p sz sp n)) = true := by
  have h : okTs c (cellsT (partsN p sz sp n)) = true := by
    induction n with
    | zero => rfl
    | succ n ih =>
      have : cellsT (partsN p sz sp (n + 1)) = cellsT (partsN p sz sp n) ++ [trS (sizeL p.1 sz sp n), trF (partD p sz sp n)] := by rw [partsN_succ]; simp [cellsT]
      rw [this, okTs_app, ih]
      simp [okTs, okT_S, okT_F]
  unfold trTs trG
  split
  · rfl
  · exact h
theorem partD_len (p : List Int × List Int) (sz sp : List Int) (d : Int) : (partD p sz sp d).length ≤ 4096 := by
  unfold partD
  rw [madeL_len]
  have := sizeOf_le (sizeL p.1 sz sp d)
  omega
set_option maxHeartbeats 2000000 in
theorem snd37 : Sound Try.prog 37 (FSem.eff F37).run := by
  refine sound_of hT (EOK_cons snd81 (EOK_cons snd87 (EOK_cons snd88 (EOK_nil _)))) mixed A37 Try.func37 hb37 (by kernel_rfl) (by kernel_rfl) (by kernel_rfl) (by kernel_rfl) sh37 3 (by kernel_rfl) rs37 hr37 ?_
  intro args H r H' hw h
  have hv : F37 args H = some (r, H') := h
  clear h
  unfold F37 at hv
  split at hv
  · rename_i t a b
    obtain ⟨p, ht, hv⟩ := Option.bind_eq_some_iff.1 hv
    obtain ⟨sz, hsz, hv⟩ := Option.bind_eq_some_iff.1 hv
    obtain ⟨sp, hsp, hv⟩ := Option.map_eq_some_iff.1 hv
    have hvv := Hide.mk hv
    clear hv
    obtain ⟨x, y, rfl, hx, hy⟩ := tens_some ht
    have hbx := abox_agg H (ints_one' hx) (ints_one' hy)
    have x0 : Ext H (H.new [x, y]) := (Ext.refl hw).new _
    have a0 := new_at H [x, y]
    have hv0 : H.c < (H.new [x, y]).c := Nat.lt_succ_self _
    generalize hH0 : H.new [x, y] = H0 at *
    generalize hp0 : H.bs.length = p0 at *
    generalize hq0 : H.c = q0 at *
    have l1 := ld40 a0
    have ht0 := tens_ext x0.pre ht
    have hsz0 := ints_ext x0.pre hsz
    have hsp0 := ints_ext x0.pre hsp
    have hw0 := x0.wf
    refine ⟨rfl, go ?_⟩
    unfold c37
    simp only [argSl]
    replace x0 := Hide.mk x0
    clear ht hx hy hsz hsp
    by_cases hm : mayL p sz sp = 0
    · obtain ⟨D, hD⟩ : ∃ D : Nat, devs sz = D := by
        obtain ⟨_, hsp'⟩ := mayL_zero hm
        have h1 := (specOK_lt hsp').2.1
        have := devs_pos h1
        exact ⟨(devs sz).toNat, by omega⟩
      have hD8 : D ≤ 8 := by have := devs_le sz; omega
      have hres : allT p sz sp = .tup [trTs (partsN p sz sp D), .at (.int .i64 0)] := by simp [allT, hm, hD]
      replace hvv := hvv.out
      rw [hres] at hvv
      replace hvv := Hide.mk hvv
      repeat' (first | apply goSeq | apply goReg | apply goSeqN | apply goSeqR | apply goSkip | apply goRet | apply goNil | apply goBlock | apply goExit | apply goBlkN | apply goBlkR | apply goBlkE | apply goSeqE | apply goLoopR | apply goLoopE | refine xOp ?_ | refine xOp0 ?_ | refine xYes ?_ | refine xNo ?_ | refine xNoU ?_ | refine xIfT ?_ | refine xIfF ?_ | refine xIf ?_ ?_ | refine xSplit ?_ ?_ | refine xIfQ ?_ ?_ | refine xSplitQ ?_ ?_ | refine xBlkX ?_ | intro _)
      clear hH0 hp0 hbx
      refine goLoop (fun m s1 G => ∃ (d : Nat) (u : AV) (bs : List (Nat × Nat)), m = D - d ∧ d ≤ D ∧ get s1 1 = a ∧ get s1 2 = b ∧ get s1 3 = .ptr p0 q0 0 ∧ get s1 9 = u ∧ get s1 21 = .int .i64 D ∧ get s1 22 = .int .i64 d ∧ Ext H0 G ∧ Rep H0.c G (trTs (partsN p sz sp d)) u bs ∧ Fresh H0.c G.c bs) D ?_ ?_
      · exact ⟨0, .nilS, [], rfl, Nat.zero_le _, rfl, rfl, rfl, rfl, rfl, rfl, Ext.refl hw0, by simp [partsN, trTs, trG, Rep, old], Fresh.nil _ _⟩
      rintro m s1 G ⟨d, u, bs, hmm, hd, g1, g2, g3, g4, g5, g6, hx, hr, hf⟩
      simp only [cut_cons, cut_nil, g1, g2, g3, g4, g5, g6]
      clear g1 g2 g3 g4 g5 g6
      have hd0 : (0 : Int) ≤ d := Int.natCast_nonneg d
      have hw1 : w ((d : Int) + 1) = ((d + 1 : Nat) : Int) := w_id (by omega)
      have l1G := ld40 (hx.pre.at a0)
      by_cases hdD : d < D
      · have hdD' : (d : Int) < D := by omega
        have htG := tens_ext hx.pre ht0
        have hszG := ints_ext hx.pre hsz0
        have hspG := ints_ext hx.pre hsp0
        have e81 : F81 [.agg [x, y], a, b, .int .i64 d] G = some (mk (okTn (trS (sizeL p.1 sz sp d)) (trF (partD p sz sp d))) G) := by
          show (tens G _).bind _ = _
          rw [htG, Option.bind_some, hszG, Option.bind_some, hspG, Option.map_some, partT_ok hm hd0 (by omega)]
        have hsl := sizeL_len p.1 sz sp d
        have hdl := partD_len p sz sp d
        obtain ⟨bx, r1, f1, x1, t1⟩ := mk_tens (H := G) hx.wf (a := trS (sizeL p.1 sz sp d)) (b := trF (partD p sz sp d)) (.inl rfl) (.inr (.inl rfl)) (by omega) (by omega)
        rw [mk_okTn] at e81
        have hps := partsN_succ p sz sp d
        have hokT : okT 0 (.agg [trS (sizeL p.1 sz sp d), trF (partD p sz sp d)]) = true := by simp [okT, okTs, okT_S, okT_F]
        generalize trS (sizeL p.1 sz sp d) = ta at *
        generalize trF (partD p sz sp d) = td at *
        generalize hr1 : mk (.agg [ta, td]) G = tt at *
        obtain ⟨tv, G2⟩ := tt
        simp only at r1 f1 x1 t1 e81
        obtain ⟨shv, dav, b1, b2, rfl, rs1, rd1, hbx⟩ := rep_agg2.1 r1
        obtain ⟨_, _, hag, hsi, hdi⟩ := tens_some t1
        cases hag
        have hone := ints_one' hsi
        have hone2 := ints_one' hdi
        -- its own cell
        have a3 := new_at G2 [.nilS, .nilS]
        have x3 : Ext G2 (G2.new [.nilS, .nilS]) := (Ext.refl x1.wf).new _
        have hq3 : G2.c < (G2.new [AV.nilS, AV.nilS]).c := Nat.lt_succ_self _
        have st := st40 (x := shv) (y := dav) a3 hone hone2
        have lr := ld40 (at_put_same (k' := ⟨G2.c, [shv, dav], true, true⟩) a3 rfl)
        have hkp : ∀ b' ver', ver' ≠ G2.c → Keeps (G2.new [.nilS, .nilS]) ((G2.new [.nilS, .nilS]).put G2.bs.length ⟨G2.c, [shv, dav], true, true⟩) b' ver' := fun b' ver' h => Keeps.put a3 h
        have x14 : Ext H0 ((G2.new [.nilS, .nilS]).put G2.bs.length ⟨G2.c, [shv, dav], true, true⟩) := put_ext hw0 ((hx.trans x1).trans x3) (Nat.le_trans hx.c x1.c) a3
        have hr4 : Rep H0.c ((G2.new [.nilS, .nilS]).put G2.bs.length ⟨G2.c, [shv, dav], true, true⟩) (trTs (partsN p sz sp d)) u bs :=
          Rep.keep _ (fun q hq => hkp q.1 q.2 (by have := (hf.2 q hq).2; have := x1.c; omega)) ((hr.ext x1.pre).ext x3.pre)
        have hrs4 : Rep H0.c ((G2.new [.nilS, .nilS]).put G2.bs.length ⟨G2.c, [shv, dav], true, true⟩) (.agg [ta, td]) (.agg [shv, dav]) bx :=
          Rep.keep _ (fun q hq => hkp q.1 q.2 (by have := (f1.2 q hq).2; omega)) ((rep_down _ (c0 := 0) hokT (Nat.zero_le _) hx.c r1).ext x3.pre)
        have hq4 : ((G2.new [.nilS, .nilS]).put G2.bs.length ⟨G2.c, [shv, dav], true, true⟩).c = (G2.new [AV.nilS, AV.nilS]).c := rfl
        generalize hG3 : G2.new [.nilS, .nilS] = G3 at *
        generalize hG4 : G3.put G2.bs.length ⟨G2.c, [shv, dav], true, true⟩ = G4 at *
        obtain ⟨vs', ee, hreps⟩ := (by simpa only [Rep] using hrs4 : ∃ vs, AV.agg [shv, dav] = .agg vs ∧ Reps H0.c G4 [ta, td] vs bx)
        cases ee
        have habs := abs45_agg (x := shv) (y := dav) G4 hone hone2
        obtain ⟨u', G5, bs', bk, b', ver', e5, hr5, hbs', hbk, hbkn, hv5, hv5', hk5, hx5⟩ := rep_app (t := 45) (e := 40) (n := d) (cs := cellsT (partsN p sz sp d)) D45 T40 rfl (by decide) x14.wf x14.c (by have := hr4; simp only [trTs, partsN_len] at this; exact this) hreps (by rw [cellsT_len, partsN_len]) rfl (by decide) (by simp [maxBytes]; omega) hf.1 (fun q hq hq2 => by have := (hf.2 q hq).2; have := (f1.2 q hq2).1; omega)
        have hx6 := hx5 H0 hw0 x14 (Nat.le_refl _)
        have hr6 : Rep H0.c G5 (trTs (partsN p sz sp (d + 1))) u' bs' := by
          rw [hps, trTs_app, partsN_len]; exact hr5
        have hf6 : Fresh H0.c G5.c bs' := by
          rw [hbs']
          have hbkf : Fresh H0.c G.c bk := ⟨hbkn, fun q hq => hf.2 q (hbk q hq)⟩
          have h12 := hbkf.app f1 hx.c x1.c
          exact h12.app (Fresh.one (b := b') (c := G2.c) (by omega) hv5') (Nat.le_trans hx.c x1.c) (by omega)
        replace hx := Hide.mk hx
        replace hf := Hide.mk hf
        replace hx6 := Hide.mk hx6
        replace hr6 := Hide.mk hr6
        replace hf6 := Hide.mk hf6
        clear hr r1 f1 x1 t1 rs1 rd1 hsi hdi a3 x3 x14 hr4 hrs4 hreps hkp hr5 hbs' hbk hbkn hk5 hx5 hps hszG hspG htG hr1 ht0 hsz0 hsp0
        replace e5 : aapp T false 45 45 u (.sl G4.bs.length G4.c 0 1 2 true) (G4.new [shv, dav]) = some (u', G5) := e5
        clear hq4 hv5 hv5' hsl hdl hbx hokT hq3
        repeat' (first | apply goSeq | apply goReg | apply goSeqN | apply goSeqR | apply goSkip | apply goRet | apply goNil | apply goBlock | apply goExit | apply goBlkN | apply goBlkR | apply goBlkE | apply goSeqE | apply goLoopR | apply goLoopE | refine xOp ?_ | refine xOp0 ?_ | refine xYes ?_ | refine xNo ?_ | refine xNoU ?_ | refine xIfT ?_ | refine xIfF ?_ | refine xIf ?_ ?_ | refine xSplit ?_ ?_ | refine xIfQ ?_ ?_ | refine xSplitQ ?_ ?_ | refine xBlkX ?_ | intro _)
        exact goLoopN (D - (d + 1)) (by omega) ⟨d + 1, u', bs', rfl, by omega, rfl, rfl, rfl, rfl, rfl, rfl, hx6.out, hr6.out, hf6.out⟩
      · have hdD' : ¬ (d : Int) < D := by omega
        have hdE : d = D := by omega
        subst hdE
        replace hx := Hide.mk hx
        replace hr := Hide.mk hr
        replace hf := Hide.mk hf
        clear ht0 hsz0 hsp0
        repeat' (first | apply goSeq | apply goReg | apply goSeqN | apply goSeqR | apply goSkip | apply goRet | apply goNil | apply goBlock | apply goExit | apply goBlkN | apply goBlkR | apply goBlkE | apply goSeqE | apply goLoopR | apply goLoopE | refine xOp ?_ | refine xOp0 ?_ | refine xYes ?_ | refine xNo ?_ | refine xNoU ?_ | refine xIfT ?_ | refine xIfF ?_ | refine xIf ?_ ?_ | refine xSplit ?_ ?_ | refine xIfQ ?_ ?_ | refine xSplitQ ?_ ?_ | refine xBlkX ?_ | intro _)
        refine goEndR (vs := [u, .int .i64 0]) (bs := bs) (d := G.c) (t := .tup [trTs (partsN p sz sp d), .at (.int .i64 0)]) hw (x0.out.pre.trans hx.out.pre) ?_ ?_ (by simp) (by simp [rs37]) rfl hvv.out
        · show Rep _ _ _ (AV.tup [_, _]) _
          rw [rep_tupI]
          exact rep_down _ (c0 := 0) (okT_Ts 0 p sz sp d) (Nat.zero_le _) x0.out.c hr.out
        · exact hf.out.wide x0.out.c (Nat.le_refl _)
    · have hres : allT p sz sp = .tup [.at .nilS, .at (.int .i64 (mayL p sz sp))] := by simp [allT, hm]
      replace hvv := hvv.out
      rw [hres] at hvv
      replace hvv := Hide.mk hvv
      repeat' (first | apply goSeq | apply goReg | apply goSeqN | apply goSeqR | apply goSkip | apply goRet | apply goNil | apply goBlock | apply goExit | apply goBlkN | apply goBlkR | apply goBlkE | apply goSeqE | apply goLoopR | apply goLoopE | refine xOp ?_ | refine xOp0 ?_ | refine xYes ?_ | refine xNo ?_ | refine xNoU ?_ | refine xIfT ?_ | refine xIfF ?_ | refine xIf ?_ ?_ | refine xSplit ?_ ?_ | refine xIfQ ?_ ?_ | refine xSplitQ ?_ ?_ | refine xBlkX ?_ | intro _)
      refine goEndR (vs := [.nilS, .int .i64 (mayL p sz sp)]) (bs := []) (d := H.c) (t := .tup [.at .nilS, .at (.int .i64 (mayL p sz sp))]) hw x0.out.pre ?_ (Fresh.nil _ _) (by simp) (by simp [rs37]) rfl hvv.out
      show Rep _ _ _ (AV.tup [_, _]) _
      rw [rep_tupI]
      simp [Rep, old]
  · cases hv
/- Plain laws: places that lie in a shape; the least device. -/
theorem ofGo_in : ∀ (s l : List Int) (d P : Int) (k : Nat), k + s.length ≤ 4 → (∀ j : Nat, j < s.length → 0 ≤ nth s j ∧ nth s j ≤ 32) → 0 ≤ d → d < P → P ≤ ((32 ^ k : Nat) : Int) → l.length = s.length → (∀ j : Nat, j < s.length → 0 ≤ nth l j ∧ nth l j < nth s j) → 0 ≤ ofGo d s l ∧ ofGo d s l < prodW P s := by
  intro s
  induction s with
  | nil =>
    intro l d P k _ _ h0 h1 _ hl _
    have : l = [] := List.eq_nil_of_length_eq_zero (by simpa using hl)
    subst this
    exact ⟨h0, h1⟩
  | cons x s ih =>
    intro l d P k hk hs h0 h1 hP hl hin
    cases l with
    | nil => simp at hl
    | cons y l =>
      simp only [ofGo, prodW]
      have hy := hin 0 (by simp)
      have hy' : 0 ≤ y ∧ y < x := by simpa [nth] using hy
      rw [if_neg (by omega)]
      have hx := hs 0 (by simp)
      have hx' : 0 ≤ x ∧ x ≤ 32 := by simpa [nth] using hx
      have hk1 := pow32 k (by simp at hk; omega)
      have hk2 := pow32 (k + 1) (by simp at hk; omega)
      have hpk : ((32 ^ (k + 1) : Nat) : Int) = ((32 ^ k : Nat) : Int) * 32 := by rw [Nat.pow_succ]; simp
      have hPx := mul_rng (a := P) (b := x) (A := ((32 ^ k : Nat) : Int)) (B := 32) (by omega) hx'
      have hdx := mul_rng (a := d) (b := x) (A := P - 1) (B := x) (by omega) (by omega)
      have hs1 : (P - 1) * x = P * x - x := by rw [Int.sub_mul, Int.one_mul]
      rw [w_id (x := d * x) (by omega), w_id (x := d * x + y) (by omega), w_id (x := P * x) (by omega)]
      exact ih l (d * x + y) (P * x) (k + 1) (by simp at hk; omega) (fun j hj => by simpa [nth] using hs (j + 1) (by simpa using hj)) (by omega) (by omega) (by omega) (by simpa using hl) (fun j hj => by simpa [nth] using hin (j + 1) (by simpa using hj))
theorem idxL_in {s l : List Int} (hs : shapeOK s = true) (hl : l.length = s.length) (hin : ∀ j : Nat, j < s.length → 0 ≤ nth l j ∧ nth l j < nth s j) : 0 ≤ idxL s l ∧ idxL s l < sizeOf s := by
  obtain ⟨h4, hr⟩ := shapeOK_rng hs
  unfold idxL
  rw [if_neg (by simp [hs, hl])]
  have hz : sizeOf s = prodW 1 s := by simp [sizeOf, hs]
  rw [hz]
  exact ofGo_in s l 0 1 0 (by omega) hr (by omega) (by omega) (by simp) hl hin
theorem ofL_in {s l : List Int} (hs : meshOK s = true) (hl : l.length = s.length) (hin : ∀ j : Nat, j < s.length → 0 ≤ nth l j ∧ nth l j < nth s j) : 0 ≤ ofL s l ∧ ofL s l < devs s := by
  obtain ⟨h4, hr⟩ := meshOK_pos hs
  unfold ofL
  rw [if_neg (by simp [hs, hl])]
  have hz : devs s = prodW 1 s := by simp [devs, hs]
  rw [hz]
  exact ofGo_in s l 0 1 0 (by omega) (fun j hj => by have := hr j hj; omega) (by omega) (by omega) (by simp) hl hin
theorem nth_addL' : ∀ (l m : List Int) (j : Nat), j < l.length → j < m.length → nth (addL l m) j = w (nth l j + nth m j) := by
  intro l
  induction l with
  | nil => intro m j h; simp at h
  | cons a l ih =>
    intro m j h1 h2
    cases m with
    | nil => simp at h2
    | cons b m =>
      cases j with
      | zero => simp [addL, nth]
      | succ j => simpa [addL, nth] using ih m j (by simpa using h1) (by simpa using h2)
theorem nth_mask (sp : List Int) : ∀ (l : List Int) (i j : Nat), j < l.length → nth (maskL sp i l) j = if contains sp (i + j : Nat) = true then nth l j else 0 := by
  intro l
  induction l with
  | nil => intro i j h; simp at h
  | cons a l ih =>
    intro i j h
    cases j with
    | zero => simp [maskL, nth]
    | succ j =>
      have := ih (i + 1) j (by simpa using h)
      simp only [maskL]
      rw [show i + 1 + j = i + (j + 1) by omega] at this
      simpa [nth] using this
theorem maskL_len (sp : List Int) : ∀ (l : List Int) (i : Nat), (maskL sp i l).length = l.length := by
  intro l
  induction l with
  | nil => intro i; rfl
  | cons a l ih => intro i; simp [maskL, ih]
theorem first_rng {sz sp : List Int} {d : Int} (h : specOK sz sp sp.length = true) (h0 : 0 ≤ d) (h1 : d < devs sz) : 0 ≤ firstL sz sp d ∧ firstL sz sp d < devs sz := by
  have hm := (specOK_lt h).2.1
  unfold firstL
  rw [if_neg (by simp [h]; omega)]
  refine ofL_in hm (by rw [maskL_len, meshAt_len]) fun j hj => ?_
  have hin := meshAt_in hm h0 h1 j hj
  rw [nth_mask sp _ 0 j (by rw [meshAt_len]; exact hj)]
  split
  · exact hin
  · have := (meshOK_pos hm).2 j hj; omega
theorem place_in {s : List Int} {i : Int} (hs : shapeOK s = true) (h0 : 0 ≤ i) (h1 : i < sizeOf s) (j : Nat) (hj : j < s.length) : 0 ≤ nth (meshAt s i) j ∧ nth (meshAt s i) j < nth s j := by
  have hz : sizeOf s = prodW 1 s := by simp [sizeOf, hs]
  have hp := shape_pos hs (by omega)
  have := sizeOf_le s
  unfold meshAt
  exact atW_in s (fun j hj => (hp.2 j hj).1) s.length i _ (Nat.le_refl _) (by simp) h0 (by omega) (fun j h1 h2 => by omega) j hj
/-- A device's part, axis by axis. -/
theorem part_rng {s sz sp : List Int} {d : Int} (h : mayCut s sz sp d) : (fromL s sz sp d).length = s.length ∧ (sizeL s sz sp d).length = s.length ∧ ∀ i : Nat, i < s.length → 0 ≤ nth (fromL s sz sp d) i ∧ 0 ≤ nth (sizeL s sz sp d) i ∧ nth (fromL s sz sp d) i + nth (sizeL s sz sp d) i ≤ nth s i := by
  obtain ⟨hs, hsp, h0, h1⟩ := h
  obtain ⟨hl, hm, hr⟩ := specOK_lt hsp
  have hl' : sp.length = s.length := by omega
  have hf : (fromL s sz sp d).length = s.length := fromL_len' hl' ⟨hs, hsp, h0, h1⟩
  have hq : (sizeL s sz sp d).length = s.length := by
    unfold sizeL cutsL
    rw [if_pos ⟨hs, hsp, h0, h1⟩, List.length_map, cutsGo_len, hl']
  refine ⟨hf, hq, fun i hi => ?_⟩
  have hc := cutsGo_at s sz (meshAt sz d) sp sp.length i (by omega)
  have e1 : nth (fromL s sz sp d) i = (cutAt s sz (meshAt sz d) i (nth sp i)).1 := by
    unfold fromL cutsL
    rw [if_pos ⟨hs, hsp, h0, h1⟩]
    simp [nth, List.getD_eq_getElem?_getD, hc]
  have e2 : nth (sizeL s sz sp d) i = w ((cutAt s sz (meshAt sz d) i (nth sp i)).2 - (cutAt s sz (meshAt sz d) i (nth sp i)).1) := by
    unfold sizeL cutsL
    rw [if_pos ⟨hs, hsp, h0, h1⟩]
    simp [nth, List.getD_eq_getElem?_getD, hc]
  rw [e1, e2]
  have hsi := (shapeOK_rng hs).2 i hi
  have hri := hr i (by omega)
  unfold cutAt
  by_cases hk : 0 ≤ nth sp i
  · rw [if_pos hk]
    obtain ⟨k, hk'⟩ : ∃ k : Nat, nth sp i = k := ⟨(nth sp i).toNat, by omega⟩
    rw [hk'] at hri ⊢
    have hin := meshAt_in hm h0 h1 k (by omega)
    have hmp := (meshOK_pos hm).2 k (by omega)
    have := cut_ok hsi hmp.2 hin
    simp only [cutOK, decide_eq_true_eq] at this
    have hw2 : w (nth s i - (cut (nth s i) (nth sz k) (nth (meshAt sz d) k)).1) = nth s i - (cut (nth s i) (nth sz k) (nth (meshAt sz d) k)).1 := w_id (by omega)
    omega
  · rw [if_neg hk]
    simp only [Int.sub_zero]
    rw [w_id (by omega)]
    omega
/-- Where a number of a part lies. -/
theorem whole_in {s sz sp : List Int} {d i : Int} (h : mayCut s sz sp d) (hz : shapeOK (sizeL s sz sp d) = true) (h0 : 0 ≤ i) (h1 : i < sizeOf (sizeL s sz sp d)) :
    ∀ j : Nat, j < s.length → nth (addL (meshAt (sizeL s sz sp d) i) (fromL s sz sp d)) j = nth (meshAt (sizeL s sz sp d) i) j + nth (fromL s sz sp d) j ∧ 0 ≤ nth (addL (meshAt (sizeL s sz sp d) i) (fromL s sz sp d)) j ∧ nth (addL (meshAt (sizeL s sz sp d) i) (fromL s sz sp d)) j < nth s j := by
  obtain ⟨hf, hq, hr⟩ := part_rng h
  intro j hj
  have hp := place_in hz h0 h1 j (by omega)
  have hrj := hr j hj
  have hsj := (shapeOK_rng h.1).2 j hj
  rw [nth_addL' _ _ j (by rw [meshAt_len]; omega) (by omega), w_id (by omega)]
  omega
/- Lists of tensors, read. -/
def tensG (H : Hp) : List AV → Option (List (List Int × List Int))
  | [] => some []
  | x :: y :: l => (tens H (.agg [x, y])).bind fun p => (tensG H l).map fun L => p :: L
  | _ => none
/-- The tensors of a list. -/
def tensL (H : Hp) (v : AV) : Option (List (List Int × List Int)) := match v with
  | .nilS => some []
  | .mtS => some []
  | .sl b ver off n es _ => if es = 2 ∧ n ≤ 2932031007402 then (H.at b ver).bind fun k => if off + n * 2 ≤ k.cells.length then tensG H ((k.cells.drop off).take (n * 2)) else none else none
  | _ => none
abbrev TS := List Int × List Int
def tth (L : List TS) (j : Nat) : TS := L.getD j ([], [])
theorem tensG_at : ∀ (cs : List AV) {H : Hp} {L : List TS}, tensG H cs = some L → cs.length = L.length * 2 ∧ ∀ j : Nat, j < L.length → ∃ x y, (cs.drop (j * 2)).take 2 = [x, y] ∧ tens H (.agg [x, y]) = some (tth L j)
  | [], H, L, h => by simp only [tensG] at h; cases h; simp
  | [_], H, L, h => by simp [tensG] at h
  | x :: y :: l, H, L, h => by
    simp only [tensG] at h
    obtain ⟨p, hp, h⟩ := Option.bind_eq_some_iff.1 h
    obtain ⟨L', hL, rfl⟩ := Option.map_eq_some_iff.1 h
    obtain ⟨h1, h2⟩ := tensG_at l hL
    refine ⟨by simp; omega, fun j hj => ?_⟩
    cases j with
    | zero => exact ⟨x, y, by simp, by simpa [tth] using hp⟩
    | succ j =>
      obtain ⟨x', y', g1, g2⟩ := h2 j (by simpa using hj)
      exact ⟨x', y', by rw [show (j + 1) * 2 = j * 2 + 1 + 1 by omega]; simpa using g1, by simpa [tth] using g2⟩
theorem tensG_ext {H H' : Hp} (hp : Pre H H') : ∀ (cs : List AV) {L : List TS}, tensG H cs = some L → tensG H' cs = some L
  | [], L, h => h
  | [_], L, h => by simp [tensG] at h
  | x :: y :: l, L, h => by
    simp only [tensG] at h ⊢
    obtain ⟨p, hp', h⟩ := Option.bind_eq_some_iff.1 h
    obtain ⟨L', hL, rfl⟩ := Option.map_eq_some_iff.1 h
    rw [tens_ext hp hp', tensG_ext hp l hL]; rfl
theorem tensL_ext {H H' : Hp} (hp : Pre H H') {v : AV} {L : List TS} (h : tensL H v = some L) : tensL H' v = some L := by
  unfold tensL at h ⊢
  split at h
  · exact h
  · exact h
  · split at h
    · rename_i he
      obtain ⟨k, hk, h⟩ := Option.bind_eq_some_iff.1 h
      simp only [he, and_self, if_true, hp.at hk, Option.bind_some]
      split at h
      · rename_i hle
        rw [if_pos hle]; exact tensG_ext hp _ h
      · cases h
    · cases h
  · cases h
theorem alen45 (v : AV) : alen T 45 v = alenS v := by simp [alen, D45]
theorem aidx45 (v i : AV) : aidx T 45 v i = aidxS 2 v i := by simp [aidx, D45, T40]
/-- What reading a list of tensors comes to. -/
theorem tensL_at {H : Hp} {v : AV} {L : List TS} (h : tensL H v = some L) : alen T 45 v = some (.int .i64 L.length) ∧ L.length ≤ 2932031007402 ∧ ∀ j : Nat, j < L.length → ∃ q x y, aidx T 45 v (.int .i64 j) = some q ∧ aload T 40 q H = some (.agg [x, y]) ∧ tens H (.agg [x, y]) = some (tth L j) ∧ ∃ b ver o, q = .ptr b ver o ∧ aload T 38 (.ptr b ver (o + 1)) H = some y := by
  rw [alen45]
  unfold tensL at h
  split at h
  · cases h; exact ⟨rfl, by simp, by simp⟩
  · cases h; exact ⟨rfl, by simp, by simp⟩
  · rename_i b ver off n es f
    split at h
    rotate_left
    · cases h
    rename_i he
    obtain ⟨rfl, hn⟩ := he
    obtain ⟨k, hk, h⟩ := Option.bind_eq_some_iff.1 h
    split at h
    rotate_left
    · cases h
    rename_i hle
    obtain ⟨h1, h2⟩ := tensG_at _ h
    have hnL : n = L.length := by simp at h1; omega
    subst hnL
    refine ⟨rfl, hn, fun j hj => ?_⟩
    obtain ⟨x, y, g1, g2⟩ := h2 j hj
    have e1 : ((k.cells.drop off).take (L.length * 2)).drop (j * 2) = ((k.cells.drop (off + j * 2)).take (L.length * 2 - j * 2)) := by
      rw [List.drop_take, List.drop_drop]
    have e2 : (k.cells.drop (off + j * 2)).take 2 = [x, y] := by
      rw [e1, List.take_take, show min 2 (L.length * 2 - j * 2) = 2 by omega] at g1
      exact g1
    refine ⟨.ptr b ver (off + j * 2), x, y, ?_, ?_, g2, b, ver, off + j * 2, rfl, ?_⟩
    · rw [aidx45]; simp only [aidxS]; rw [if_pos ⟨trivial, by omega, by omega⟩]; simp
    · simp only [aload, T40, hk]
      rw [if_pos (by omega), e2]
    · simp only [aload, T38, hk]
      have h1 := congrArg (fun l => l[1]?) e2
      simp only [List.getElem?_take, List.getElem?_drop] at h1
      simpa using h1
  · cases h
/-- A list of tensors that was handed back. -/
theorem rep_tensL {c : Nat} {H : Hp} {L : List (Tr × Tr)} {M : List TS} {v : AV} {bs : List (Nat × Nat)} (h : Rep c H (trTs L) v bs) (hl : L.length = M.length) (hn : M.length ≤ 2932031007402)
    (hi : ∀ j : Nat, j < M.length → ∃ a b, L[j]? = some (a, b) ∧ isL a (tth M j).1 ∧ isL b (tth M j).2 ∧ (tth M j).1.length ≤ 1152921504606846976 ∧ (tth M j).2.length ≤ 1152921504606846976) : tensL H v = some M := by
  have key : ∀ (L : List (Tr × Tr)) (M : List TS) {vs : List AV} {bs : List (Nat × Nat)}, L.length = M.length → (∀ j : Nat, j < M.length → ∃ a b, L[j]? = some (a, b) ∧ isL a (tth M j).1 ∧ isL b (tth M j).2 ∧ (tth M j).1.length ≤ 1152921504606846976 ∧ (tth M j).2.length ≤ 1152921504606846976) → Reps c H (cellsT L) vs bs → tensG H vs = some M := by
    intro L
    induction L with
    | nil =>
      intro M vs bs hl _ hr
      have : M = [] := List.eq_nil_of_length_eq_zero (by simpa using hl.symm)
      subst this
      simp only [cellsT, List.flatMap_nil, Reps] at hr
      rw [hr.1]; rfl
    | cons p L ih =>
      intro M vs bs hl hi hr
      cases M with
      | nil => simp at hl
      | cons m M =>
        obtain ⟨a, b, h1, h2, h3, h4, h5⟩ := hi 0 (by simp)
        simp at h1
        subst h1
        simp only [cellsT, List.flatMap_cons, List.cons_append, List.nil_append, Reps] at hr
        obtain ⟨x, vs1, b1, b2, rfl, r1, ⟨y, vs2, b3, b4, rfl, r2, r3, rfl⟩, rfl⟩ := hr
        simp only [tensG]
        simp only [tth, List.getD_cons_zero] at h2 h3 h4 h5
        rw [tens_of (h2.ints h4 r1) (h3.ints h5 r2), Option.bind_some, ih M (by simpa using hl) (fun j hj => by have := hi (j + 1) (by simpa using hj); simpa [tth] using this) r3]
        rfl
  unfold trTs trG at h
  by_cases h0 : L.length = 0
  · rw [if_pos h0] at h
    simp only [Rep] at h
    have : M = [] := List.eq_nil_of_length_eq_zero (by omega)
    subst this
    rw [h.1]; rfl
  · rw [if_neg h0] at h
    simp only [Rep] at h
    obtain ⟨b, ver, vs, bs', rfl, hv, hk, hr, rfl⟩ := h
    have hvl := reps_len _ hr
    rw [cellsT_len] at hvl
    simp only [tensL, hk, Option.bind_some]
    rw [if_pos ⟨trivial, by omega⟩, if_pos (by simp; omega)]
    have : ((vs.drop 0).take (L.length * 2)) = vs := by rw [List.drop_zero, List.take_of_length_le (by omega)]
    rw [this]
    exact key L M hl hi hr
/- Functions in short form. -/
/-! parquetry/split.Join (4 parameters; calls 21 parquetry/tile.Size, 22 parquetry/tile.From, 63 parquetry/spec.Right, 66 parquetry/spec.First, 88 parquetry/mesh.Devices, 89 parquetry/mesh.Right, 90 parquetry/shape.Right, 91 parquetry/tensor.Right, 92 parquetry/shape.Same, 93 parquetry/tensor.Same, 94 parquetry/tensor.Fill, 95 parquetry/shape.Place, 96 parquetry/shape.Index) -/
def A38 : Ann := { recs := fun i => if i = 8 then [(4, 11), (5, 11)] else [], live := fun i => if i = 6 then [0, 1, 2, 3, 8, 46, 47, 48] else if i = 12 then [0, 1, 2, 3, 8, 69, 70, 71] else if i = 19 then [1, 2, 3, 8, 14, 15, 93, 94, 95] else if i = 23 then [1, 2, 3, 8, 14, 15, 17, 18, 93, 94, 95, 106, 107, 108] else if i = 27 then [1, 2, 3, 8, 14, 15, 17, 18, 20, 21, 93, 94, 95, 106, 107, 108, 118, 119] else [], drop := fun i => false }
noncomputable def c38 : Cc :=
  (.seq (.reg false [⟨some 8, (Op.alloc 40), none⟩,
    ⟨some 9, (Op.assign (Operand.const (Value.int IntKind.i64 0))), none⟩])
  (.seq (.seq (.reg false [⟨some 23, (Op.move (Operand.tmp 2)), none⟩,
    ⟨some 24, (Op.call { callee := (Callee.value (Operand.func 89)), args := #[(Operand.tmp 23)], argTypes := #[22] }), none⟩,
    ⟨some 25, (Op.unOp UnOp.not 4 (Operand.tmp 24)), none⟩,
    ⟨some 26, (Op.move (Operand.tmp 25)), none⟩,
    ⟨some 27, (Op.move (Operand.tmp 1)), some (26, false)⟩,
    ⟨some 28, (Op.call { callee := (Callee.value (Operand.func 90)), args := #[(Operand.tmp 27)], argTypes := #[22] }), some (26, false)⟩,
    ⟨some 29, (Op.unOp UnOp.not 4 (Operand.tmp 28)), some (26, false)⟩,
    ⟨some 30, (Op.pick (Operand.tmp 26) (Operand.const (Value.bool true)) (Operand.tmp 29)), none⟩,
    ⟨some 31, (Op.move (Operand.tmp 30)), none⟩,
    ⟨some 32, (Op.move (Operand.tmp 2)), some (31, false)⟩,
    ⟨some 33, (Op.move (Operand.tmp 3)), some (31, false)⟩,
    ⟨some 34, (Op.move (Operand.tmp 1)), some (31, false)⟩,
    ⟨some 35, (Op.call { callee := (Callee.builtin Builtin.len), args := #[(Operand.tmp 34)], argTypes := #[22] }), some (31, false)⟩,
    ⟨some 36, (Op.call { callee := (Callee.value (Operand.func 63)), args := #[(Operand.tmp 32), (Operand.tmp 33), (Operand.tmp 35)], argTypes := #[22, 22, 3] }), some (31, false)⟩,
    ⟨some 37, (Op.unOp UnOp.not 4 (Operand.tmp 36)), some (31, false)⟩,
    ⟨some 38, (Op.pick (Operand.tmp 31) (Operand.const (Value.bool true)) (Operand.tmp 37)), none⟩])
  (.cond (Operand.tmp 38)
    (.seq (.reg false [⟨some 39, (Op.build 40 #[]), none⟩,
      ⟨none, (Op.store 40 (Operand.tmp 8) (Operand.tmp 39)), none⟩,
      ⟨some 9, (Op.assign (Operand.const (Value.int IntKind.i64 1))), none⟩])
    .ret)
    .skip))
  (.seq (.seq (.reg false [⟨some 40, (Op.move (Operand.tmp 0)), none⟩,
    ⟨some 41, (Op.call { callee := (Callee.builtin Builtin.len), args := #[(Operand.tmp 40)], argTypes := #[45] }), none⟩,
    ⟨some 42, (Op.move (Operand.tmp 2)), none⟩,
    ⟨some 43, (Op.call { callee := (Callee.value (Operand.func 88)), args := #[(Operand.tmp 42)], argTypes := #[22] }), none⟩,
    ⟨some 44, (Op.binOp BinOp.neq 3 (Operand.tmp 41) (Operand.tmp 43) 3), none⟩])
  (.cond (Operand.tmp 44)
    (.seq (.reg false [⟨some 45, (Op.build 40 #[]), none⟩,
      ⟨none, (Op.store 40 (Operand.tmp 8) (Operand.tmp 45)), none⟩,
      ⟨some 9, (Op.assign (Operand.const (Value.int IntKind.i64 13))), none⟩])
    .ret)
    .skip))
  (.seq (.seq (.reg false [⟨some 46, (Op.move (Operand.tmp 0)), none⟩,
    ⟨some 47, (Op.call { callee := (Callee.builtin Builtin.len), args := #[(Operand.tmp 46)], argTypes := #[45] }), none⟩,
    ⟨some 48, (Op.move (Operand.const (Value.int IntKind.i64 0))), none⟩])
  (.block 0 (.loop [0, 1, 2, 3, 8, 46, 47, 48] false
    (.seq (.reg false [⟨some 49, (Op.binOp BinOp.lss 3 (Operand.tmp 48) (Operand.tmp 47) 3), none⟩])
    (.seq (.cond (Operand.tmp 49)
      .skip
      (.exit 0))
    (.seq (.block 1 (.seq (.reg false [⟨some 50, (Op.move (Operand.tmp 48)), none⟩,
      ⟨some 51, (Op.indexAddr 45 (Operand.tmp 46) (Operand.tmp 48)), none⟩,
      ⟨some 52, (Op.load 40 (Operand.tmp 51)), none⟩,
      ⟨some 11, (Op.alloc 40), none⟩,
      ⟨some 10, (Op.assign (Operand.tmp 50)), none⟩,
      ⟨none, (Op.store 40 (Operand.tmp 11) (Operand.tmp 52)), none⟩])
    (.seq (.drw false [⟨some 53, (Op.load 40 (Operand.tmp 11)), none⟩,
      ⟨some 54, (Op.call { callee := (Callee.value (Operand.func 91)), args := #[(Operand.tmp 53)], argTypes := #[40] }), none⟩,
      ⟨some 55, (Op.unOp UnOp.not 4 (Operand.tmp 54)), none⟩,
      ⟨some 56, (Op.move (Operand.tmp 55)), none⟩,
      ⟨some 57, (Op.fieldAddr 40 (Operand.tmp 11) 0), some (56, false)⟩,
      ⟨some 58, (Op.load 22 (Operand.tmp 57)), some (56, false)⟩,
      ⟨some 59, (Op.move (Operand.tmp 1)), some (56, false)⟩,
      ⟨some 60, (Op.move (Operand.tmp 2)), some (56, false)⟩,
      ⟨some 61, (Op.move (Operand.tmp 3)), some (56, false)⟩,
      ⟨some 62, (Op.move (Operand.tmp 10)), some (56, false)⟩,
      ⟨some 63, (Op.call { callee := (Callee.value (Operand.func 21)), args := #[(Operand.tmp 59), (Operand.tmp 60), (Operand.tmp 61), (Operand.tmp 62)], argTypes := #[22, 22, 22, 3] }), some (56, false)⟩,
      ⟨some 64, (Op.call { callee := (Callee.value (Operand.func 92)), args := #[(Operand.tmp 58), (Operand.tmp 63)], argTypes := #[22, 22] }), some (56, false)⟩,
      ⟨some 65, (Op.unOp UnOp.not 4 (Operand.tmp 64)), some (56, false)⟩,
      ⟨some 66, (Op.pick (Operand.tmp 56) (Operand.const (Value.bool true)) (Operand.tmp 65)), none⟩] [(5, 11)])
    (.cond (Operand.tmp 66)
      (.seq (.reg false [⟨some 67, (Op.build 40 #[]), none⟩,
        ⟨none, (Op.store 40 (Operand.tmp 8) (Operand.tmp 67)), none⟩,
        ⟨some 9, (Op.assign (Operand.const (Value.int IntKind.i64 13))), none⟩])
      .ret)
      .skip))))
    (.reg false [⟨some 68, (Op.binOp BinOp.add 3 (Operand.tmp 48) (Operand.const (Value.int IntKind.i64 1)) 3), none⟩,
      ⟨some 48, (Op.move (Operand.tmp 68)), none⟩])))))))
  (.seq (.seq (.reg false [⟨some 69, (Op.move (Operand.tmp 0)), none⟩,
    ⟨some 70, (Op.call { callee := (Callee.builtin Builtin.len), args := #[(Operand.tmp 69)], argTypes := #[45] }), none⟩,
    ⟨some 71, (Op.move (Operand.const (Value.int IntKind.i64 0))), none⟩])
  (.block 2 (.loop [0, 1, 2, 3, 8, 69, 70, 71] false
    (.seq (.reg false [⟨some 72, (Op.binOp BinOp.lss 3 (Operand.tmp 71) (Operand.tmp 70) 3), none⟩])
    (.seq (.cond (Operand.tmp 72)
      .skip
      (.exit 2))
    (.seq (.block 3 (.seq (.reg false [⟨some 73, (Op.move (Operand.tmp 71)), none⟩,
      ⟨some 74, (Op.indexAddr 45 (Operand.tmp 69) (Operand.tmp 71)), none⟩,
      ⟨some 75, (Op.load 40 (Operand.tmp 74)), none⟩,
      ⟨some 13, (Op.alloc 40), none⟩,
      ⟨some 12, (Op.assign (Operand.tmp 73)), none⟩,
      ⟨none, (Op.store 40 (Operand.tmp 13) (Operand.tmp 75)), none⟩])
    (.seq (.reg false [⟨some 76, (Op.load 40 (Operand.tmp 13)), none⟩,
      ⟨some 77, (Op.move (Operand.tmp 0)), none⟩,
      ⟨some 78, (Op.move (Operand.tmp 2)), none⟩,
      ⟨some 79, (Op.move (Operand.tmp 3)), none⟩,
      ⟨some 80, (Op.move (Operand.tmp 12)), none⟩,
      ⟨some 81, (Op.call { callee := (Callee.value (Operand.func 66)), args := #[(Operand.tmp 78), (Operand.tmp 79), (Operand.tmp 80)], argTypes := #[22, 22, 3] }), none⟩,
      ⟨some 82, (Op.indexAddr 45 (Operand.tmp 77) (Operand.tmp 81)), none⟩,
      ⟨some 83, (Op.load 40 (Operand.tmp 82)), none⟩,
      ⟨some 84, (Op.call { callee := (Callee.value (Operand.func 93)), args := #[(Operand.tmp 76), (Operand.tmp 83)], argTypes := #[40, 40] }), none⟩,
      ⟨some 85, (Op.unOp UnOp.not 4 (Operand.tmp 84)), none⟩])
    (.cond (Operand.tmp 85)
      (.seq (.reg false [⟨some 86, (Op.build 40 #[]), none⟩,
        ⟨none, (Op.store 40 (Operand.tmp 8) (Operand.tmp 86)), none⟩,
        ⟨some 9, (Op.assign (Operand.const (Value.int IntKind.i64 25))), none⟩])
      .ret)
      .skip))))
    (.reg false [⟨some 87, (Op.binOp BinOp.add 3 (Operand.tmp 71) (Operand.const (Value.int IntKind.i64 1)) 3), none⟩,
      ⟨some 71, (Op.move (Operand.tmp 87)), none⟩])))))))
  (.seq (.reg false [⟨some 89, (Op.move (Operand.tmp 1)), none⟩,
    ⟨some 90, (Op.call { callee := (Callee.value (Operand.func 94)), args := #[(Operand.tmp 89), (Operand.const (Value.int IntKind.i64 0))], argTypes := #[22, 2] }), none⟩,
    ⟨some 88, (Op.move (Operand.tmp 90)), none⟩,
    ⟨some 91, (Op.extract (Operand.tmp 88) 0), none⟩,
    ⟨some 92, (Op.extract (Operand.tmp 88) 1), none⟩,
    ⟨some 14, (Op.alloc 40), none⟩,
    ⟨none, (Op.store 40 (Operand.tmp 14) (Operand.tmp 91)), none⟩,
    ⟨some 15, (Op.assign (Operand.tmp 92)), none⟩])
  (.seq (.seq (.reg false [⟨some 93, (Op.move (Operand.tmp 0)), none⟩,
    ⟨some 94, (Op.call { callee := (Callee.builtin Builtin.len), args := #[(Operand.tmp 93)], argTypes := #[45] }), none⟩,
    ⟨some 95, (Op.move (Operand.const (Value.int IntKind.i64 0))), none⟩])
  (.block 4 (.loop [1, 2, 3, 8, 14, 15, 93, 94, 95] false
    (.seq (.reg false [⟨some 96, (Op.binOp BinOp.lss 3 (Operand.tmp 95) (Operand.tmp 94) 3), none⟩])
    (.seq (.cond (Operand.tmp 96)
      .skip
      (.exit 4))
    (.seq (.block 5 (.seq (.reg false [⟨some 97, (Op.move (Operand.tmp 95)), none⟩,
      ⟨some 98, (Op.indexAddr 45 (Operand.tmp 93) (Operand.tmp 95)), none⟩,
      ⟨some 99, (Op.load 40 (Operand.tmp 98)), none⟩,
      ⟨some 17, (Op.alloc 40), none⟩,
      ⟨some 16, (Op.assign (Operand.tmp 97)), none⟩,
      ⟨none, (Op.store 40 (Operand.tmp 17) (Operand.tmp 99)), none⟩])
    (.seq (.reg false [⟨some 100, (Op.move (Operand.tmp 1)), none⟩,
      ⟨some 101, (Op.move (Operand.tmp 2)), none⟩,
      ⟨some 102, (Op.move (Operand.tmp 3)), none⟩,
      ⟨some 103, (Op.move (Operand.tmp 16)), none⟩,
      ⟨some 104, (Op.call { callee := (Callee.value (Operand.func 22)), args := #[(Operand.tmp 100), (Operand.tmp 101), (Operand.tmp 102), (Operand.tmp 103)], argTypes := #[22, 22, 22, 3] }), none⟩,
      ⟨some 18, (Op.assign (Operand.tmp 104)), none⟩])
    (.seq (.reg false [⟨some 105, (Op.fieldAddr 40 (Operand.tmp 17) 1), none⟩,
      ⟨some 106, (Op.load 38 (Operand.tmp 105)), none⟩,
      ⟨some 107, (Op.call { callee := (Callee.builtin Builtin.len), args := #[(Operand.tmp 106)], argTypes := #[38] }), none⟩,
      ⟨some 108, (Op.move (Operand.const (Value.int IntKind.i64 0))), none⟩])
    (.block 6 (.loop [1, 2, 3, 8, 14, 15, 17, 18, 93, 94, 95, 106, 107, 108] false
      (.seq (.reg false [⟨some 109, (Op.binOp BinOp.lss 3 (Operand.tmp 108) (Operand.tmp 107) 3), none⟩])
      (.seq (.cond (Operand.tmp 109)
        .skip
        (.exit 6))
      (.seq (.block 7 (.seq (.reg false [⟨some 110, (Op.move (Operand.tmp 108)), none⟩,
        ⟨some 111, (Op.indexAddr 38 (Operand.tmp 106) (Operand.tmp 108)), none⟩,
        ⟨some 112, (Op.load 2 (Operand.tmp 111)), none⟩,
        ⟨some 19, (Op.assign (Operand.tmp 110)), none⟩,
        ⟨some 20, (Op.assign (Operand.tmp 112)), none⟩])
      (.seq (.reg false [⟨some 113, (Op.fieldAddr 40 (Operand.tmp 17) 0), none⟩,
        ⟨some 114, (Op.load 22 (Operand.tmp 113)), none⟩,
        ⟨some 115, (Op.move (Operand.tmp 19)), none⟩,
        ⟨some 116, (Op.call { callee := (Callee.value (Operand.func 95)), args := #[(Operand.tmp 114), (Operand.tmp 115)], argTypes := #[22, 3] }), none⟩,
        ⟨some 21, (Op.assign (Operand.tmp 116)), none⟩])
      (.seq (.seq (.reg false [⟨some 117, (Op.move (Operand.tmp 21)), none⟩,
        ⟨some 118, (Op.call { callee := (Callee.builtin Builtin.len), args := #[(Operand.tmp 117)], argTypes := #[22] }), none⟩,
        ⟨some 119, (Op.move (Operand.const (Value.int IntKind.i64 0))), none⟩])
      (.block 8 (.loop [1, 2, 3, 8, 14, 15, 17, 18, 20, 21, 93, 94, 95, 106, 107, 108, 118, 119] false
        (.seq (.reg false [⟨some 120, (Op.binOp BinOp.lss 3 (Operand.tmp 119) (Operand.tmp 118) 3), none⟩])
        (.seq (.cond (Operand.tmp 120)
          .skip
          (.exit 8))
        (.seq (.block 9 (.seq (.reg false [⟨some 121, (Op.move (Operand.tmp 119)), none⟩,
          ⟨some 22, (Op.assign (Operand.tmp 121)), none⟩])
        (.reg false [⟨some 122, (Op.move (Operand.tmp 21)), none⟩,
          ⟨some 123, (Op.move (Operand.tmp 22)), none⟩,
          ⟨some 124, (Op.indexAddr 22 (Operand.tmp 122) (Operand.tmp 123)), none⟩,
          ⟨some 125, (Op.load 3 (Operand.tmp 124)), none⟩,
          ⟨some 126, (Op.move (Operand.tmp 18)), none⟩,
          ⟨some 127, (Op.move (Operand.tmp 22)), none⟩,
          ⟨some 128, (Op.indexAddr 22 (Operand.tmp 126) (Operand.tmp 127)), none⟩,
          ⟨some 129, (Op.load 3 (Operand.tmp 128)), none⟩,
          ⟨some 130, (Op.binOp BinOp.add 3 (Operand.tmp 125) (Operand.tmp 129) 3), none⟩,
          ⟨some 131, (Op.indexAddr 22 (Operand.tmp 122) (Operand.tmp 123)), none⟩,
          ⟨none, (Op.store 3 (Operand.tmp 131) (Operand.tmp 130)), none⟩])))
        (.reg false [⟨some 132, (Op.binOp BinOp.add 3 (Operand.tmp 119) (Operand.const (Value.int IntKind.i64 1)) 3), none⟩,
          ⟨some 119, (Op.move (Operand.tmp 132)), none⟩])))))))
      (.reg false [⟨some 133, (Op.fieldAddr 40 (Operand.tmp 14) 1), none⟩,
        ⟨some 134, (Op.load 38 (Operand.tmp 133)), none⟩,
        ⟨some 135, (Op.move (Operand.tmp 1)), none⟩,
        ⟨some 136, (Op.move (Operand.tmp 21)), none⟩,
        ⟨some 137, (Op.call { callee := (Callee.value (Operand.func 96)), args := #[(Operand.tmp 135), (Operand.tmp 136)], argTypes := #[22, 22] }), none⟩,
        ⟨some 138, (Op.move (Operand.tmp 20)), none⟩,
        ⟨some 139, (Op.indexAddr 38 (Operand.tmp 134) (Operand.tmp 137)), none⟩,
        ⟨none, (Op.store 2 (Operand.tmp 139) (Operand.tmp 138)), none⟩])))))
      (.reg false [⟨some 140, (Op.binOp BinOp.add 3 (Operand.tmp 108) (Operand.const (Value.int IntKind.i64 1)) 3), none⟩,
        ⟨some 108, (Op.move (Operand.tmp 140)), none⟩]))))))))))
    (.reg false [⟨some 141, (Op.binOp BinOp.add 3 (Operand.tmp 95) (Operand.const (Value.int IntKind.i64 1)) 3), none⟩,
      ⟨some 95, (Op.move (Operand.tmp 141)), none⟩])))))))
  (.seq (.reg false [⟨some 142, (Op.load 40 (Operand.tmp 14)), none⟩,
    ⟨some 143, (Op.move (Operand.tmp 15)), none⟩,
    ⟨none, (Op.store 40 (Operand.tmp 8) (Operand.tmp 142)), none⟩,
    ⟨some 9, (Op.assign (Operand.tmp 143)), none⟩])
  .ret))))))))
noncomputable def b38 : Code := Try.f38.body.getD .skip
theorem hb38 : Try.f38.body = some b38 := by kernel_rfl
theorem sh38 : shortC A38 b38 = c38 := by kernel_rfl
def rs38 : List ResultVar := [(ResultVar.cell 8 40), (ResultVar.tmp 9)]
theorem hr38 : Try.f38.results.toList = rs38 := by kernel_rfl
/-! parquetry/parquetrylaw17.known (0 parameters; calls 37 parquetry/split.All, 38 parquetry/split.Join) -/
def A36 : Ann := { drop := fun i => false }
noncomputable def c36 : Cc :=
  (.seq (.reg false [⟨some 0, (Op.assign (Operand.const (Value.bool false))), none⟩])
  (.seq (.reg false [⟨some 6, (Op.buildSlice 22 1 #[(0, (Operand.const (Value.int IntKind.i64 3)))]), none⟩,
    ⟨some 7, (Op.buildSlice 38 3 #[(0, (Operand.const (Value.int IntKind.i64 1))), (1, (Operand.const (Value.int IntKind.i64 2))), (2, (Operand.const (Value.int IntKind.i64 3)))]), none⟩,
    ⟨some 8, (Op.build 40 #[(0, (Operand.tmp 6)), (1, (Operand.tmp 7))]), none⟩,
    ⟨some 1, (Op.alloc 40), none⟩,
    ⟨none, (Op.store 40 (Operand.tmp 1) (Operand.tmp 8)), none⟩])
  (.seq (.reg false [⟨some 10, (Op.load 40 (Operand.tmp 1)), none⟩,
    ⟨some 11, (Op.buildSlice 22 1 #[(0, (Operand.const (Value.int IntKind.i64 2)))]), none⟩,
    ⟨some 12, (Op.buildSlice 22 1 #[(0, (Operand.const (Value.int IntKind.i64 0)))]), none⟩,
    ⟨some 13, (Op.call { callee := (Callee.value (Operand.func 37)), args := #[(Operand.tmp 10), (Operand.tmp 11), (Operand.tmp 12)], argTypes := #[40, 22, 22] }), none⟩,
    ⟨some 9, (Op.move (Operand.tmp 13)), none⟩,
    ⟨some 14, (Op.extract (Operand.tmp 9) 0), none⟩,
    ⟨some 15, (Op.extract (Operand.tmp 9) 1), none⟩,
    ⟨some 2, (Op.assign (Operand.tmp 14)), none⟩,
    ⟨some 3, (Op.assign (Operand.tmp 15)), none⟩])
  (.seq (.reg false [⟨some 17, (Op.load 40 (Operand.tmp 1)), none⟩,
    ⟨some 18, (Op.buildSlice 22 1 #[(0, (Operand.const (Value.int IntKind.i64 3)))]), none⟩,
    ⟨some 19, (Op.buildSlice 38 3 #[(0, (Operand.const (Value.int IntKind.i64 1))), (1, (Operand.const (Value.int IntKind.i64 2))), (2, (Operand.const (Value.int IntKind.i64 4)))]), none⟩,
    ⟨some 20, (Op.build 40 #[(0, (Operand.tmp 18)), (1, (Operand.tmp 19))]), none⟩,
    ⟨some 21, (Op.buildSlice 45 2 #[(0, (Operand.tmp 17)), (1, (Operand.tmp 20))]), none⟩,
    ⟨some 22, (Op.buildSlice 22 1 #[(0, (Operand.const (Value.int IntKind.i64 3)))]), none⟩,
    ⟨some 23, (Op.buildSlice 22 1 #[(0, (Operand.const (Value.int IntKind.i64 2)))]), none⟩,
    ⟨some 24, (Op.buildSlice 22 1 #[(0, (Operand.const (Value.int IntKind.i64 (-1))))]), none⟩,
    ⟨some 25, (Op.call { callee := (Callee.value (Operand.func 38)), args := #[(Operand.tmp 21), (Operand.tmp 22), (Operand.tmp 23), (Operand.tmp 24)], argTypes := #[45, 22, 22, 22] }), none⟩,
    ⟨some 16, (Op.move (Operand.tmp 25)), none⟩,
    ⟨some 26, (Op.extract (Operand.tmp 16) 0), none⟩,
    ⟨some 27, (Op.extract (Operand.tmp 16) 1), none⟩,
    ⟨some 4, (Op.alloc 40), none⟩,
    ⟨none, (Op.store 40 (Operand.tmp 4) (Operand.tmp 26)), none⟩,
    ⟨some 5, (Op.assign (Operand.tmp 27)), none⟩])
  (.seq (.reg false [⟨some 28, (Op.move (Operand.tmp 3)), none⟩,
    ⟨some 29, (Op.binOp BinOp.eql 46 (Operand.tmp 28) (Operand.const (Value.int IntKind.i64 0)) 46), none⟩,
    ⟨some 30, (Op.move (Operand.tmp 29)), none⟩,
    ⟨some 31, (Op.move (Operand.tmp 2)), some (30, true)⟩,
    ⟨some 32, (Op.call { callee := (Callee.builtin Builtin.len), args := #[(Operand.tmp 31)], argTypes := #[45] }), some (30, true)⟩,
    ⟨some 33, (Op.binOp BinOp.eql 3 (Operand.tmp 32) (Operand.const (Value.int IntKind.i64 2)) 3), some (30, true)⟩,
    ⟨some 34, (Op.pick (Operand.tmp 30) (Operand.tmp 33) (Operand.const (Value.bool false))), none⟩,
    ⟨some 35, (Op.move (Operand.tmp 34)), none⟩,
    ⟨some 36, (Op.move (Operand.tmp 2)), some (35, true)⟩,
    ⟨some 37, (Op.indexAddr 45 (Operand.tmp 36) (Operand.const (Value.int IntKind.i64 0))), some (35, true)⟩,
    ⟨some 38, (Op.fieldAddr 40 (Operand.tmp 37) 1), some (35, true)⟩,
    ⟨some 39, (Op.load 38 (Operand.tmp 38)), some (35, true)⟩,
    ⟨some 40, (Op.call { callee := (Callee.builtin Builtin.len), args := #[(Operand.tmp 39)], argTypes := #[38] }), some (35, true)⟩,
    ⟨some 41, (Op.binOp BinOp.eql 3 (Operand.tmp 40) (Operand.const (Value.int IntKind.i64 2)) 3), some (35, true)⟩,
    ⟨some 42, (Op.pick (Operand.tmp 35) (Operand.tmp 41) (Operand.const (Value.bool false))), none⟩,
    ⟨some 43, (Op.move (Operand.tmp 42)), none⟩,
    ⟨some 44, (Op.move (Operand.tmp 2)), some (43, true)⟩,
    ⟨some 45, (Op.indexAddr 45 (Operand.tmp 44) (Operand.const (Value.int IntKind.i64 1))), some (43, true)⟩,
    ⟨some 46, (Op.fieldAddr 40 (Operand.tmp 45) 1), some (43, true)⟩,
    ⟨some 47, (Op.load 38 (Operand.tmp 46)), some (43, true)⟩,
    ⟨some 48, (Op.call { callee := (Callee.builtin Builtin.len), args := #[(Operand.tmp 47)], argTypes := #[38] }), some (43, true)⟩,
    ⟨some 49, (Op.binOp BinOp.eql 3 (Operand.tmp 48) (Operand.const (Value.int IntKind.i64 1)) 3), some (43, true)⟩,
    ⟨some 50, (Op.pick (Operand.tmp 43) (Operand.tmp 49) (Operand.const (Value.bool false))), none⟩,
    ⟨some 51, (Op.move (Operand.tmp 50)), none⟩,
    ⟨some 52, (Op.move (Operand.tmp 2)), some (51, true)⟩,
    ⟨some 53, (Op.indexAddr 45 (Operand.tmp 52) (Operand.const (Value.int IntKind.i64 1))), some (51, true)⟩,
    ⟨some 54, (Op.fieldAddr 40 (Operand.tmp 53) 1), some (51, true)⟩,
    ⟨some 55, (Op.load 38 (Operand.tmp 54)), some (51, true)⟩,
    ⟨some 56, (Op.indexAddr 38 (Operand.tmp 55) (Operand.const (Value.int IntKind.i64 0))), some (51, true)⟩,
    ⟨some 57, (Op.load 2 (Operand.tmp 56)), some (51, true)⟩,
    ⟨some 58, (Op.binOp BinOp.eql 2 (Operand.tmp 57) (Operand.const (Value.int IntKind.i64 3)) 2), some (51, true)⟩,
    ⟨some 59, (Op.pick (Operand.tmp 51) (Operand.tmp 58) (Operand.const (Value.bool false))), none⟩,
    ⟨some 60, (Op.move (Operand.tmp 59)), none⟩,
    ⟨some 61, (Op.move (Operand.tmp 5)), some (60, true)⟩,
    ⟨some 62, (Op.binOp BinOp.eql 46 (Operand.tmp 61) (Operand.const (Value.int IntKind.i64 25)) 46), some (60, true)⟩,
    ⟨some 63, (Op.pick (Operand.tmp 60) (Operand.tmp 62) (Operand.const (Value.bool false))), none⟩,
    ⟨some 0, (Op.assign (Operand.tmp 63)), none⟩])
  .ret)))))
noncomputable def b36 : Code := Try.f36.body.getD .skip
theorem hb36 : Try.f36.body = some b36 := by kernel_rfl
theorem sh36 : shortC A36 b36 = c36 := by kernel_rfl
def rs36 : List ResultVar := [(ResultVar.tmp 0)]
theorem hr36 : Try.f36.results.toList = rs36 := by kernel_rfl
/-! parquetry/parquetrylaw17.SplitBack (1 parameters; calls 20 parquetry/parquetryref14.Devices, 23 parquetry/parquetryref14.Copies, 31 parquetry/parquetrylaw17.made, 36 parquetry/parquetrylaw17.known, 37 parquetry/split.All, 38 parquetry/split.Join, 39 parquetry/parquetryref1.Same) -/
def A10 : Ann := { live := fun i => if i = 6 then [3, 4, 5, 6, 7, 8, 9, 10, 35, 36] else [], drop := fun i => false }
noncomputable def b10 : Code := Try.f10.body.getD .skip
/- Walks: parts put together. -/
section
variable {E : Env} {sh : Bool} {full : List Co} {rs : List (Nat × Nat)} {s : Sl} {H : Hp} {tr : List (Sl × Hp)} {k : Ct}
theorem goTYes {d o l v H' j want q} (hg : get s j = .bool want) (e : xdo E T sh o s H = q) (eq : q = some (v, H')) (h : YT E T sh full rs l ((d, v) :: s) H' (tr ++ [(s, H)]) k) : YT E T sh full rs (⟨some d, o, some (j, want)⟩ :: l) s H tr k := ⟨by
  simp only [XT, XG_some j want _ _ hg, e, eq, opt_some]; exact ⟨fun _ => h.out, fun hh => absurd rfl hh⟩⟩
theorem goTNo {d o l j want} (hg : get s j = .bool (!want)) (h : YT E T sh full rs l ((d, .tup []) :: s) H (tr ++ [(s, H)]) k) : YT E T sh full rs (⟨some d, o, some (j, want)⟩ :: l) s H tr k := ⟨by
  simp only [XT, XG_some j want _ _ hg]; exact ⟨fun hh => (by cases want <;> cases hh), fun _ => h.out⟩⟩
end
theorem err_facts {H G : Hp} {p0 q0 : Nat} (hw : Wf H) (hx : Ext H G) (d0 : OwnC H G p0 q0 [.nilS, .nilS]) :
    astore T 40 (.ptr p0 q0 0) (.agg [.nilS, .nilS]) G = some (G.put p0 ⟨q0, [.nilS, .nilS], true, true⟩) ∧ aload T 40 (.ptr p0 q0 0) (G.put p0 ⟨q0, [.nilS, .nilS], true, true⟩) = some (.agg [.nilS, .nilS]) ∧ Hide (Ext H (G.put p0 ⟨q0, [.nilS, .nilS], true, true⟩)) :=
  ⟨st40 d0.at' rfl rfl, ld40 (at_put_same d0.at' rfl), ⟨put_ext hw hx d0.new d0.at'⟩⟩
/-! ### what it comes to -/
def jd (s fr sh dat : List Int) : Nat → List Int → List Int
  | 0, D => D
  | i + 1, D => (jd s fr sh dat i D).set (idxL s (addL (meshAt sh (i : Nat)) fr)).toNat (nth dat (i : Nat))
noncomputable def ja (L : List TS) (s sz sp : List Int) : Nat → List Int → List Int
  | 0, D => D
  | d + 1, D => jd s (fromL s sz sp (d : Nat)) (tth L d).1 (tth L d).2 (tth L d).2.length (ja L s sz sp d D)
noncomputable def ok1 (L : List TS) (s sz sp : List Int) (d : Nat) : Bool := tOK (tth L d) && sameL (tth L d).1 (sizeL s sz sp d)
def ok2 (L : List TS) (sz sp : List Int) (d : Nat) : Bool := sameT (tth L d) (tth L (firstL sz sp d).toNat)
def allN (f : Nat → Bool) (n : Nat) : Bool := (List.range n).all f
theorem allN_iff (f : Nat → Bool) (n : Nat) : allN f n = true ↔ ∀ j, j < n → f j = true := by simp [allN]
noncomputable def joinD (L : List TS) (s sz sp : List Int) : List Int := ja L s sz sp L.length (List.replicate (sizeOf s).toNat 0)
noncomputable def joinT (sv : AV) (L : List TS) (s sz sp : List Int) : Tr :=
  if meshOK sz = true ∧ shapeOK s = true ∧ specOK sz sp s.length = true then
    (if (L.length : Int) = devs sz then
      (if allN (ok1 L s sz sp) L.length = true then
        (if allN (ok2 L sz sp) L.length = true then okTn (clT sv s) (trF (joinD L s sz sp)) else zeroT 25)
      else zeroT 13)
    else zeroT 13)
  else zeroT 1
noncomputable def F38 (args : List AV) (H : Hp) : Option (AV × Hp) := match args with
  | [l, s, a, b] => (tensL H l).bind fun L => (ints H s).bind fun sh => (ints H a).bind fun sz => (ints H b).bind fun sp => if notMt s = true ∧ (shapeOK sh = true → sh.length < 1099511627776) then some (mk (joinT s L sh sz sp) H) else none
  | _ => none
theorem sameGo_eq : ∀ (l m : List Int), l.length = m.length → sameGo l m = true → l = m := by
  intro l
  induction l with
  | nil => intro m h _; exact (List.eq_nil_of_length_eq_zero (by simpa using h.symm)).symm
  | cons a l ih =>
    intro m h hs
    cases m with
    | nil => simp at h
    | cons b m =>
      simp only [sameGo] at hs
      split at hs
      · rename_i hab
        have hab' : a = b := by simpa [nth] using hab
        rw [hab', ih m (by simpa using h) (by simpa using hs)]
      · cases hs
theorem sameL_eq {l m : List Int} (h : sameL l m = true) : l = m := by
  unfold sameL at h
  split at h
  · exact sameGo_eq l m (by assumption) h
  · cases h
theorem jd_len (s fr sh dat : List Int) : ∀ (n : Nat) (D : List Int), (jd s fr sh dat n D).length = D.length := by
  intro n
  induction n with
  | zero => intro D; rfl
  | succ n ih => intro D; simp [jd, ih]
theorem ja_len (L : List TS) (s sz sp : List Int) : ∀ (n : Nat) (D : List Int), (ja L s sz sp n D).length = D.length := by
  intro n
  induction n with
  | zero => intro D; rfl
  | succ n ih => intro D; simp [ja, jd_len, ih]
set_option maxHeartbeats 4000000 in
theorem snd38 : Sound Try.prog 38 (FSem.eff F38).run := by
  refine sound_of hT (EOK_cons snd21 (EOK_cons snd22 (EOK_cons snd63 (EOK_cons snd66 (EOK_cons snd88 (EOK_cons snd89 (EOK_cons snd90 (EOK_cons snd91 (EOK_cons snd92 (EOK_cons snd93 (EOK_cons snd94 (EOK_cons snd95 (EOK_cons snd96 (EOK_nil _)))))))))))))) mixed A38 Try.func38 hb38 (by kernel_rfl) (by kernel_rfl) (by kernel_rfl) (by kernel_rfl) sh38 4 (by kernel_rfl) rs38 hr38 ?_
  intro args H r H' hw h
  have hv : F38 args H = some (r, H') := h
  clear h
  unfold F38 at hv
  split at hv
  · rename_i lv sv av bv
    obtain ⟨L, hL, hv⟩ := Option.bind_eq_some_iff.1 hv
    obtain ⟨s, hs, hv⟩ := Option.bind_eq_some_iff.1 hv
    obtain ⟨sz, hsz, hv⟩ := Option.bind_eq_some_iff.1 hv
    obtain ⟨sp, hsp, hv⟩ := Option.bind_eq_some_iff.1 hv
    split at hv
    rotate_left
    · cases hv
    rename_i hmax
    obtain ⟨hmt, hmax⟩ := hmax
    have hvv := Hide.mk (Option.some.inj hv)
    clear hv
    have x0 : Ext H (H.new [.nilS, .nilS]) := (Ext.refl hw).new _
    have c0 : OwnC H (H.new [.nilS, .nilS]) H.bs.length H.c [.nilS, .nilS] := ⟨Nat.le_refl _, new_at _ _⟩
    have hq0lt : H.c < (H.new [AV.nilS, AV.nilS]).c := Nat.lt_succ_self _
    generalize hH0 : H.new [.nilS, .nilS] = H0 at *
    generalize hp0 : H.bs.length = p0 at *
    generalize hq0 : H.c = q0 at *
    have hLL := tensL_at (tensL_ext x0.pre hL)
    have hs0 := ints_ext x0.pre hs
    have hsz0 := ints_ext x0.pre hsz
    have hsp0 := ints_ext x0.pre hsp
    have hlS := alenS_ints hs0
    simp only [← alen22] at hlS
    have hlL := hLL.1
    have hLb := hLL.2.1
    clear hLL
    refine ⟨rfl, go ?_⟩
    unfold c38
    simp only [argSl]
    obtain ⟨st0, lr0, hp0'⟩ := err_facts hw x0 c0
    replace hL := Hide.mk hL
    replace hs := Hide.mk hs
    replace hsz := Hide.mk hsz
    replace hsp := Hide.mk hsp
    replace x0 := Hide.mk x0
    replace c0 := Hide.mk c0
    have fin : ∀ (e : Int), joinT sv L s sz sp = zeroT e → mk (zeroT e) H = (r, H') := fun e h => by rw [← h]; exact hvv.out
    replace fin := Hide.mk fin
    rcases h1 : meshOK sz with _ | _
    · repeat' (first | apply goSeq | apply goReg | apply goSeqN | apply goSeqR | apply goSkip | apply goRet | apply goNil | apply goBlock | apply goExit | apply goBlkN | apply goBlkR | apply goBlkE | apply goSeqE | apply goLoopR | apply goLoopE | refine xOp ?_ | refine xOp0 ?_ | refine xYes ?_ | refine xNo ?_ | refine xNoU ?_ | refine xIfT ?_ | refine xIfF ?_ | refine xIf ?_ ?_ | refine xSplit ?_ ?_ | refine xIfQ ?_ ?_ | refine xSplitQ ?_ ?_ | refine xBlkX ?_ | intro _)
      exact goEndR (vs := [.agg [.nilS, .nilS], .int .i64 1]) (bs := []) (d := H.c) (t := zeroT 1) hw hp0'.out.pre (rep_zero _ _ _) (Fresh.nil _ _) (by simp) (by simp [rs38, lr0]) rfl (fin.out 1 (by simp [joinT, h1]))
    rcases h2 : shapeOK s with _ | _
    · repeat' (first | apply goSeq | apply goReg | apply goSeqN | apply goSeqR | apply goSkip | apply goRet | apply goNil | apply goBlock | apply goExit | apply goBlkN | apply goBlkR | apply goBlkE | apply goSeqE | apply goLoopR | apply goLoopE | refine xOp ?_ | refine xOp0 ?_ | refine xYes ?_ | refine xNo ?_ | refine xNoU ?_ | refine xIfT ?_ | refine xIfF ?_ | refine xIf ?_ ?_ | refine xSplit ?_ ?_ | refine xIfQ ?_ ?_ | refine xSplitQ ?_ ?_ | refine xBlkX ?_ | intro _)
      exact goEndR (vs := [.agg [.nilS, .nilS], .int .i64 1]) (bs := []) (d := H.c) (t := zeroT 1) hw hp0'.out.pre (rep_zero _ _ _) (Fresh.nil _ _) (by simp) (by simp [rs38, lr0]) rfl (fin.out 1 (by simp [joinT, h2]))
    rcases h3 : specOK sz sp s.length with _ | _
    · repeat' (first | apply goSeq | apply goReg | apply goSeqN | apply goSeqR | apply goSkip | apply goRet | apply goNil | apply goBlock | apply goExit | apply goBlkN | apply goBlkR | apply goBlkE | apply goSeqE | apply goLoopR | apply goLoopE | refine xOp ?_ | refine xOp0 ?_ | refine xYes ?_ | refine xNo ?_ | refine xNoU ?_ | refine xIfT ?_ | refine xIfF ?_ | refine xIf ?_ ?_ | refine xSplit ?_ ?_ | refine xIfQ ?_ ?_ | refine xSplitQ ?_ ?_ | refine xBlkX ?_ | intro _)
      exact goEndR (vs := [.agg [.nilS, .nilS], .int .i64 1]) (bs := []) (d := H.c) (t := zeroT 1) hw hp0'.out.pre (rep_zero _ _ _) (Fresh.nil _ _) (by simp) (by simp [rs38, lr0]) rfl (fin.out 1 (by simp [joinT, h3]))
    by_cases h4 : devs sz = L.length
    rotate_left
    · have h4' : ¬ (L.length : Int) = devs sz := fun e => h4 e.symm
      repeat' (first | apply goSeq | apply goReg | apply goSeqN | apply goSeqR | apply goSkip | apply goRet | apply goNil | apply goBlock | apply goExit | apply goBlkN | apply goBlkR | apply goBlkE | apply goSeqE | apply goLoopR | apply goLoopE | refine xOp ?_ | refine xOp0 ?_ | refine xYes ?_ | refine xNo ?_ | refine xNoU ?_ | refine xIfT ?_ | refine xIfF ?_ | refine xIf ?_ ?_ | refine xSplit ?_ ?_ | refine xIfQ ?_ ?_ | refine xSplitQ ?_ ?_ | refine xBlkX ?_ | intro _)
      exact goEndR (vs := [.agg [.nilS, .nilS], .int .i64 13]) (bs := []) (d := H.c) (t := zeroT 13) hw hp0'.out.pre (rep_zero _ _ _) (Fresh.nil _ _) (by simp) (by simp [rs38, lr0]) rfl (fin.out 13 (by simp [joinT, h1, h2, h3, h4']))
    have hsplen : sp.length = s.length := by have := (specOK_lt h3).1; omega
    have hspOK : specOK sz sp sp.length = true := by rw [hsplen]; exact h3
    repeat' (first | apply goSeq | apply goReg | apply goSeqN | apply goSeqR | apply goSkip | apply goRet | apply goNil | apply goBlock | apply goExit | apply goBlkN | apply goBlkR | apply goBlkE | apply goSeqE | apply goLoopR | apply goLoopE | refine xOp ?_ | refine xOp0 ?_ | refine xYes ?_ | refine xNo ?_ | refine xNoU ?_ | refine xIfT ?_ | refine xIfF ?_ | refine xIf ?_ ?_ | refine xSplit ?_ ?_ | refine xIfQ ?_ ?_ | refine xSplitQ ?_ ?_ | refine xBlkX ?_ | intro _)
    clear hH0 hp0 hs0 hsz0 hsp0 st0 lr0 hp0'
    have hHc : H.c ≤ q0 := by omega
    clear hq0
    replace hsplen := Hide.mk hsplen
    replace hspOK := Hide.mk hspOK
    -- are they right?
    refine goLoop (fun m s1 G => ∃ d : Nat, m = L.length - d ∧ d ≤ L.length ∧ get s1 0 = lv ∧ get s1 1 = sv ∧ get s1 2 = av ∧ get s1 3 = bv ∧ get s1 8 = .ptr p0 q0 0 ∧ get s1 46 = lv ∧ get s1 47 = .int .i64 L.length ∧ get s1 48 = .int .i64 d ∧ Ext H G ∧ OwnC H G p0 q0 [.nilS, .nilS] ∧ ∀ j, j < d → ok1 L s sz sp j = true) L.length ?_ ?_
    · exact ⟨0, rfl, Nat.zero_le _, rfl, rfl, rfl, rfl, rfl, rfl, rfl, rfl, x0.out, c0.out, by intro j h; omega⟩
    clear c0 x0
    rintro m s1 G ⟨d, hmm, hd, g1, g2, g3, g4, g5, g6, g7, g8, hx, d0, hok⟩
    simp only [cut_cons, cut_nil, g1, g2, g3, g4, g5, g6, g7, g8]
    clear g1 g2 g3 g4 g5 g6 g7 g8
    have hd0 : (0 : Int) ≤ d := Int.natCast_nonneg d
    have hw1 : w ((d : Int) + 1) = ((d + 1 : Nat) : Int) := w_id (by omega)
    replace hok := Hide.mk hok
    by_cases hdn : d < L.length
    · have hdn' : (d : Int) < L.length := by omega
      obtain ⟨q, x, y, hq1, hq2, hq3, _⟩ := (tensL_at (tensL_ext hx.pre hL.out)).2.2 d hdn
      obtain ⟨_, _, hag, hxi, hyi⟩ := tens_some hq3
      cases hag
      have st1 := st40 (x := x) (y := y) (new_at G [.nilS, .nilS]) (ints_one' hxi) (ints_one' hyi)
      have x1 : Ext G (G.new [.nilS, .nilS]) := (Ext.refl hx.wf).new _
      have x2 : Ext G ((G.new [.nilS, .nilS]).put G.bs.length ⟨G.c, [x, y], true, true⟩) := put_ext hx.wf x1 (Nat.le_refl _) (new_at _ _)
      have a2 : ((G.new [.nilS, .nilS]).put G.bs.length ⟨G.c, [x, y], true, true⟩).at G.bs.length G.c = some ⟨G.c, [x, y], true, true⟩ := at_put_same (new_at G _) rfl
      generalize hG1 : G.new [.nilS, .nilS] = G1 at *
      generalize hG2 : G1.put G.bs.length ⟨G.c, [x, y], true, true⟩ = G2 at *
      have l1 := ld40 a2
      have l2 := ld22 a2 0
      simp only [List.getElem?_cons_zero] at l2
      have hx2 := hx.trans x2
      have ht2 := tens_ext x2.pre hq3
      have d2 := d0.ext x2.pre
      have hxi2 := ints_ext x2.pre hxi
      have e21 : F21 [sv, av, bv, .int .i64 d] G2 = some (mkS G2 (sizeL s sz sp d)) := by
        simp only [F21, ints_ext hx2.pre hs.out, ints_ext hx2.pre hsz.out, ints_ext hx2.pre hsp.out, Option.bind_some, Option.map_some]
      have x3 := mkS_ext hx2.wf (sizeL s sz sp d)
      have hzi := ints_of_own (mkS_own G2 (sizeL s sz sp d)) (by have := sizeL_len s sz sp d; omega)
      have hokd : ok1 L s sz sp d = (tOK (tth L d) && sameL (tth L d).1 (sizeL s sz sp d)) := rfl
      generalize hSZ : sizeL s sz sp d = SZ at *
      generalize hr3 : mkS G2 SZ = r3 at *
      obtain ⟨zv, G3⟩ := r3
      simp only at x3 hzi
      have hx3 := hx2.trans x3
      have d3 := d2.ext x3.pre
      have l2' := ld22 (x3.pre.at a2) 0
      simp only [List.getElem?_cons_zero] at l2'
      have hxi3 := ints_ext x3.pre hxi2
      have hok1f : ok1 L s sz sp d = false → joinT sv L s sz sp = zeroT 13 := by
        intro h
        have : ¬ allN (ok1 L s sz sp) L.length = true := by rw [allN_iff]; intro hh; rw [hh d hdn] at h; cases h
        simp [joinT, h1, h2, h3, h4, this]
      replace hok1f := Hide.mk hok1f
      rcases ht : tOK (tth L d) with _ | _
      · obtain ⟨st2, lr2, hp2⟩ := err_facts hw hx2 d2
        have hf := fin.out 13 (hok1f.out (by rw [hokd, ht]; rfl))
        replace hf := Hide.mk hf
        clear hok1f hx d0 x1 x2 x3 hx2 hx3 d2 d3 hzi hokd hSZ hr3 hxi hyi hxi2 hxi3 hq3 e21 a2
        repeat' (first | apply goSeq | apply goReg | apply goSeqN | apply goSeqR | apply goSkip | apply goRet | apply goNil | apply goBlock | apply goExit | apply goBlkN | apply goBlkR | apply goBlkE | apply goSeqE | apply goLoopR | apply goLoopE | refine xOp ?_ | refine xOp0 ?_ | refine xYes ?_ | refine xNo ?_ | refine xNoU ?_ | refine xIfT ?_ | refine xIfF ?_ | refine xIf ?_ ?_ | refine xSplit ?_ ?_ | refine xIfQ ?_ ?_ | refine xSplitQ ?_ ?_ | refine xBlkX ?_ | intro _)
        apply goDrw
        iterate 4 (apply goTOp; (· (simp [*]; try exact rfl)); (· exact rfl))
        iterate 9 (apply goTNo; (· (simp; done)))
        apply goTOp; (· (simp [*]; try exact rfl)); (· exact rfl)
        refine goTNil (by simp [again, XG, XG_none, get]) ?_
        repeat' (first | apply goSeq | apply goReg | apply goSeqN | apply goSeqR | apply goSkip | apply goRet | apply goNil | apply goBlock | apply goExit | apply goBlkN | apply goBlkR | apply goBlkE | apply goSeqE | apply goLoopR | apply goLoopE | refine xOp ?_ | refine xOp0 ?_ | refine xYes ?_ | refine xNo ?_ | refine xNoU ?_ | refine xIfT ?_ | refine xIfF ?_ | refine xIf ?_ ?_ | refine xSplit ?_ ?_ | refine xIfQ ?_ ?_ | refine xSplitQ ?_ ?_ | refine xBlkX ?_ | intro _)
        exact goEndR (vs := [.agg [.nilS, .nilS], .int .i64 13]) (bs := []) (d := H.c) (t := zeroT 13) hw hp2.out.pre (rep_zero _ _ _) (Fresh.nil _ _) (by simp) (by simp [rs38, lr2]) rfl hf.out
      · rcases hsm : sameL (tth L d).1 SZ with _ | _
        · obtain ⟨st2, lr2, hp2⟩ := err_facts hw hx3 d3
          have hf := fin.out 13 (hok1f.out (by rw [hokd, ht, hsm]; rfl))
          replace hf := Hide.mk hf
          clear hok1f hx d0 x1 x2 x3 hx2 hx3 d2 d3 hokd hSZ hr3 hxi hyi hxi2 hq3 a2
          repeat' (first | apply goSeq | apply goReg | apply goSeqN | apply goSeqR | apply goSkip | apply goRet | apply goNil | apply goBlock | apply goExit | apply goBlkN | apply goBlkR | apply goBlkE | apply goSeqE | apply goLoopR | apply goLoopE | refine xOp ?_ | refine xOp0 ?_ | refine xYes ?_ | refine xNo ?_ | refine xNoU ?_ | refine xIfT ?_ | refine xIfF ?_ | refine xIf ?_ ?_ | refine xSplit ?_ ?_ | refine xIfQ ?_ ?_ | refine xSplitQ ?_ ?_ | refine xBlkX ?_ | intro _)
          apply goDrw
          iterate 4 (apply goTOp; (· (simp [*]; try exact rfl)); (· exact rfl))
          iterate 9 (apply goTYes; (· (simp [*]; done)); (· (simp [*]; try exact rfl)); (· exact rfl))
          apply goTOp; (· (simp [*]; try exact rfl)); (· exact rfl)
          refine goTNil (by simp [again, XG, XG_none, get, l2, l2']) ?_
          repeat' (first | apply goSeq | apply goReg | apply goSeqN | apply goSeqR | apply goSkip | apply goRet | apply goNil | apply goBlock | apply goExit | apply goBlkN | apply goBlkR | apply goBlkE | apply goSeqE | apply goLoopR | apply goLoopE | refine xOp ?_ | refine xOp0 ?_ | refine xYes ?_ | refine xNo ?_ | refine xNoU ?_ | refine xIfT ?_ | refine xIfF ?_ | refine xIf ?_ ?_ | refine xSplit ?_ ?_ | refine xIfQ ?_ ?_ | refine xSplitQ ?_ ?_ | refine xBlkX ?_ | intro _)
          exact goEndR (vs := [.agg [.nilS, .nilS], .int .i64 13]) (bs := []) (d := H.c) (t := zeroT 13) hw hp2.out.pre (rep_zero _ _ _) (Fresh.nil _ _) (by simp) (by simp [rs38, lr2]) rfl hf.out
        · have hokT : ok1 L s sz sp d = true := by rw [hokd, ht, hsm]; rfl
          have hx3' := Hide.mk hx3
          have d3' := Hide.mk d3
          clear hok1f hx d0 x1 x2 x3 hx2 hx3 d2 d3 hokd hSZ hr3 hxi hyi hxi2 hq3 a2
          replace hokT := Hide.mk hokT
          repeat' (first | apply goSeq | apply goReg | apply goSeqN | apply goSeqR | apply goSkip | apply goRet | apply goNil | apply goBlock | apply goExit | apply goBlkN | apply goBlkR | apply goBlkE | apply goSeqE | apply goLoopR | apply goLoopE | refine xOp ?_ | refine xOp0 ?_ | refine xYes ?_ | refine xNo ?_ | refine xNoU ?_ | refine xIfT ?_ | refine xIfF ?_ | refine xIf ?_ ?_ | refine xSplit ?_ ?_ | refine xIfQ ?_ ?_ | refine xSplitQ ?_ ?_ | refine xBlkX ?_ | intro _)
          apply goDrw
          iterate 4 (apply goTOp; (· (simp [*]; try exact rfl)); (· exact rfl))
          iterate 9 (apply goTYes; (· (simp [*]; done)); (· (simp [*]; try exact rfl)); (· exact rfl))
          apply goTOp; (· (simp [*]; try exact rfl)); (· exact rfl)
          refine goTNil (by simp [again, XG, XG_none, get, l2, l2']) ?_
          repeat' (first | apply goSeq | apply goReg | apply goSeqN | apply goSeqR | apply goSkip | apply goRet | apply goNil | apply goBlock | apply goExit | apply goBlkN | apply goBlkR | apply goBlkE | apply goSeqE | apply goLoopR | apply goLoopE | refine xOp ?_ | refine xOp0 ?_ | refine xYes ?_ | refine xNo ?_ | refine xNoU ?_ | refine xIfT ?_ | refine xIfF ?_ | refine xIf ?_ ?_ | refine xSplit ?_ ?_ | refine xIfQ ?_ ?_ | refine xSplitQ ?_ ?_ | refine xBlkX ?_ | intro _)
          refine goLoopN (L.length - (d + 1)) (by omega) ⟨d + 1, rfl, by omega, rfl, rfl, rfl, rfl, rfl, rfl, rfl, rfl, hx3'.out, d3'.out, ?_⟩
          intro j hj
          by_cases hjd : j = d
          · subst hjd; exact hokT.out
          · exact hok.out j (by omega)
    have hdn' : ¬ (d : Int) < L.length := by omega
    have hok1 : allN (ok1 L s sz sp) L.length = true := (allN_iff _ _).2 fun j hj => hok.out j (by omega)
    clear hok hmm hd hw1 hd0
    replace hok1 := Hide.mk hok1
    replace hx := Hide.mk hx
    replace d0 := Hide.mk d0
    repeat' (first | apply goSeq | apply goReg | apply goSeqN | apply goSeqR | apply goSkip | apply goRet | apply goNil | apply goBlock | apply goExit | apply goBlkN | apply goBlkR | apply goBlkE | apply goSeqE | apply goLoopR | apply goLoopE | refine xOp ?_ | refine xOp0 ?_ | refine xYes ?_ | refine xNo ?_ | refine xNoU ?_ | refine xIfT ?_ | refine xIfF ?_ | refine xIf ?_ ?_ | refine xSplit ?_ ?_ | refine xIfQ ?_ ?_ | refine xSplitQ ?_ ?_ | refine xBlkX ?_ | intro _)
    clear hdn' hdn
    -- are copies the same?
    refine goLoop (fun m s1 G2 => ∃ d : Nat, m = L.length - d ∧ d ≤ L.length ∧ get s1 0 = lv ∧ get s1 1 = sv ∧ get s1 2 = av ∧ get s1 3 = bv ∧ get s1 8 = .ptr p0 q0 0 ∧ get s1 69 = lv ∧ get s1 70 = .int .i64 L.length ∧ get s1 71 = .int .i64 d ∧ Ext H G2 ∧ OwnC H G2 p0 q0 [.nilS, .nilS] ∧ ∀ j, j < d → ok2 L sz sp j = true) L.length ?_ ?_
    · exact ⟨0, rfl, Nat.zero_le _, rfl, rfl, rfl, rfl, rfl, rfl, rfl, rfl, hx.out, d0.out, by intro j h; omega⟩
    clear hx d0
    rintro m2 s2 G2 ⟨e, hmm, he, g1, g2, g3, g4, g5, g6, g7, g8, hx, d0, hok⟩
    simp only [cut_cons, cut_nil, g1, g2, g3, g4, g5, g6, g7, g8]
    clear g1 g2 g3 g4 g5 g6 g7 g8
    have he0 : (0 : Int) ≤ e := Int.natCast_nonneg e
    have hw1 : w ((e : Int) + 1) = ((e + 1 : Nat) : Int) := w_id (by omega)
    replace hok := Hide.mk hok
    by_cases hen : e < L.length
    · have hen' : (e : Int) < L.length := by omega
      have hread := (tensL_at (tensL_ext hx.pre hL.out)).2.2
      obtain ⟨q, x, y, hq1, hq2, hq3, _⟩ := hread e hen
      obtain ⟨_, _, hag, hxi, hyi⟩ := tens_some hq3
      cases hag
      obtain ⟨hf0, hf1⟩ := first_rng hspOK.out he0 (by omega)
      obtain ⟨f, hf⟩ : ∃ f : Nat, firstL sz sp e = f := ⟨(firstL sz sp e).toNat, by omega⟩
      obtain ⟨qf, xf, yf, hqf1, hqf2, hqf3, _⟩ := hread f (by omega)
      have st1 := st40 (x := x) (y := y) (new_at G2 [.nilS, .nilS]) (ints_one' hxi) (ints_one' hyi)
      have x1 : Ext G2 (G2.new [.nilS, .nilS]) := (Ext.refl hx.wf).new _
      have x2 : Ext G2 ((G2.new [.nilS, .nilS]).put G2.bs.length ⟨G2.c, [x, y], true, true⟩) := put_ext hx.wf x1 (Nat.le_refl _) (new_at _ _)
      have a2 : ((G2.new [.nilS, .nilS]).put G2.bs.length ⟨G2.c, [x, y], true, true⟩).at G2.bs.length G2.c = some ⟨G2.c, [x, y], true, true⟩ := at_put_same (new_at G2 _) rfl
      generalize hG3 : G2.new [.nilS, .nilS] = G3 at *
      generalize hG4 : G3.put G2.bs.length ⟨G2.c, [x, y], true, true⟩ = G4 at *
      have l1 := ld40 a2
      have hx2 := hx.trans x2
      have ht2 := tens_ext x2.pre hq3
      have htf2 := tens_ext x2.pre hqf3
      have d2 := d0.ext x2.pre
      have hlf2 := aload_ext x2.pre hqf2
      have hsz2 := ints_ext hx2.pre hsz.out
      have hsp2 := ints_ext hx2.pre hsp.out
      have hokd : ok2 L sz sp e = sameT (tth L e) (tth L f) := by simp [ok2, hf]
      have hx2' := Hide.mk hx2
      have d2' := Hide.mk d2
      rcases hsm : sameT (tth L e) (tth L f) with _ | _
      · have hne : ¬ allN (ok2 L sz sp) L.length = true := by rw [allN_iff]; intro hh; have := hh e hen; rw [hokd, hsm] at this; cases this
        obtain ⟨st2, lr2, hp2⟩ := err_facts hw hx2 d2
        have hff := fin.out 25 (by simp [joinT, h1, h2, h3, h4, hok1.out, hne])
        replace hff := Hide.mk hff
        clear hx d0 x1 x2 hx2 d2 hokd hxi hyi hq3 a2 hqf2 hqf3 hread hne
        repeat' (first | apply goSeq | apply goReg | apply goSeqN | apply goSeqR | apply goSkip | apply goRet | apply goNil | apply goBlock | apply goExit | apply goBlkN | apply goBlkR | apply goBlkE | apply goSeqE | apply goLoopR | apply goLoopE | refine xOp ?_ | refine xOp0 ?_ | refine xYes ?_ | refine xNo ?_ | refine xNoU ?_ | refine xIfT ?_ | refine xIfF ?_ | refine xIf ?_ ?_ | refine xSplit ?_ ?_ | refine xIfQ ?_ ?_ | refine xSplitQ ?_ ?_ | refine xBlkX ?_ | intro _)
        exact goEndR (vs := [.agg [.nilS, .nilS], .int .i64 25]) (bs := []) (d := H.c) (t := zeroT 25) hw hp2.out.pre (rep_zero _ _ _) (Fresh.nil _ _) (by simp) (by simp [rs38, lr2]) rfl hff.out
      · rw [hsm] at hokd
        replace hokd := Hide.mk hokd
        clear hx d0 x1 x2 hx2 d2 hxi hyi hq3 a2 hqf2 hqf3 hread
        repeat' (first | apply goSeq | apply goReg | apply goSeqN | apply goSeqR | apply goSkip | apply goRet | apply goNil | apply goBlock | apply goExit | apply goBlkN | apply goBlkR | apply goBlkE | apply goSeqE | apply goLoopR | apply goLoopE | refine xOp ?_ | refine xOp0 ?_ | refine xYes ?_ | refine xNo ?_ | refine xNoU ?_ | refine xIfT ?_ | refine xIfF ?_ | refine xIf ?_ ?_ | refine xSplit ?_ ?_ | refine xIfQ ?_ ?_ | refine xSplitQ ?_ ?_ | refine xBlkX ?_ | intro _)
        refine goLoopN (L.length - (e + 1)) (by omega) ⟨e + 1, rfl, by omega, rfl, rfl, rfl, rfl, rfl, rfl, rfl, rfl, hx2'.out, d2'.out, ?_⟩
        intro j hj
        by_cases hjd : j = e
        · subst hjd; exact hokd.out
        · exact hok.out j (by omega)
    have hen' : ¬ (e : Int) < L.length := by omega
    have hok2 : allN (ok2 L sz sp) L.length = true := (allN_iff _ _).2 fun j hj => hok.out j (by omega)
    clear hok hmm he hw1 he0
    replace hok2 := Hide.mk hok2
    have hq0G : q0 < G2.c := at_lt hx.wf d0.at'
    -- the whole
    replace hmax := hmax h2
    have hm0 : madeL (fun _ => 0) s = List.replicate (sizeOf s).toNat 0 := by
      apply List.ext_getElem
      · simp [madeL_len]
      · intro j _ _; simp [madeL]
    have e94 : F94 [sv, .int .i64 0] G2 = some (mk (okTn (clT sv s) (trF (List.replicate (sizeOf s).toNat 0))) G2) := by
      show (ints G2 sv).bind _ = _
      rw [ints_ext hx.pre hs.out, Option.bind_some, if_pos ⟨hmt, hmax⟩]
      simp only [fillT, h2, if_true, hm0]
    have hsle := sizeOf_le s
    have hsge := sizeOf_nonneg s
    obtain ⟨N, hN⟩ : ∃ N : Nat, sizeOf s = N := ⟨(sizeOf s).toNat, by omega⟩
    rw [mk_okTn] at e94
    have hcl := clT_is (ints_ext hx.pre hs.out)
    have hokc := hcl.ok 0
    obtain ⟨bt, r1, f1, x1, t1⟩ := mk_tens (H := G2) hx.wf (a := clT sv s) (b := trF (List.replicate (sizeOf s).toNat 0)) hcl (.inr (.inl rfl)) (by omega) (by simp; omega)
    have hres : joinT sv L s sz sp = okTn (clT sv s) (trF (joinD L s sz sp)) := by simp [joinT, h1, h2, h3, h4, hok1.out, hok2.out]
    replace hvv := hvv.out
    rw [hres] at hvv
    replace hvv := Hide.mk hvv
    generalize hDD : joinD L s sz sp = DD at *
    have hD0 : ja L s sz sp L.length (List.replicate (sizeOf s).toNat 0) = DD := hDD
    rw [hN] at hD0
    simp only [hN, Int.toNat_natCast] at e94 r1 f1 x1 t1 hD0
    generalize hr1 : mk (.agg [clT sv s, trF (List.replicate N 0)]) G2 = tt at *
    obtain ⟨tv, GB⟩ := tt
    simp only at r1 f1 x1 t1 e94
    obtain ⟨shv, dav, b1, b2, rfl, rs1, rd1, hbt⟩ := rep_agg2.1 r1
    obtain ⟨_, _, hag, hsi, hdi⟩ := tens_some t1
    cases hag
    have hone := ints_one' hsi
    have hone2 := ints_one' hdi
    have a3 := new_at GB [.nilS, .nilS]
    have x3 : Ext GB (GB.new [.nilS, .nilS]) := (Ext.refl x1.wf).new _
    have st3 := st40 (x := shv) (y := dav) a3 hone hone2
    have x4 : Ext GB ((GB.new [.nilS, .nilS]).put GB.bs.length ⟨GB.c, [shv, dav], true, true⟩) := put_ext x1.wf x3 (Nat.le_refl _) a3
    have d4 : OwnC GB ((GB.new [.nilS, .nilS]).put GB.bs.length ⟨GB.c, [shv, dav], true, true⟩) GB.bs.length GB.c [shv, dav] := ⟨Nat.le_refl _, at_put_same a3 rfl⟩
    have hq4lt : GB.c < ((GB.new [.nilS, .nilS]).put GB.bs.length ⟨GB.c, [shv, dav], true, true⟩).c := Nat.lt_succ_self _
    generalize hG3 : GB.new [.nilS, .nilS] = G3 at *
    generalize hp4 : GB.bs.length = p4 at *
    generalize hq4 : GB.c = q4 at *
    generalize hGC : G3.put p4 ⟨q4, [shv, dav], true, true⟩ = GC at *
    have hxC := (hx.trans x1).trans x4
    have d0C := (d0.ext x1.pre).ext x4.pre
    have rsC := rs1.ext x4.pre
    have rdC := rd1.ext x4.pre
    have hGq : G2.c ≤ q4 := by have := x1.c; omega
    have hd12 := hbt ▸ f1
    clear r1 t1 hsi hdi rs1 rd1 x1 x3 x4 hx d0 a3 hm0 hDD
    replace hxC := Hide.mk hxC
    replace d0C := Hide.mk d0C
    replace rsC := Hide.mk rsC
    replace rdC := Hide.mk rdC
    replace d4 := Hide.mk d4
    replace hd12 := Hide.mk hd12
    replace f1 := Hide.mk f1
    replace hD0 := Hide.mk hD0
    have hres := Hide.mk hres
    repeat' (first | apply goSeq | apply goReg | apply goSeqN | apply goSeqR | apply goSkip | apply goRet | apply goNil | apply goBlock | apply goExit | apply goBlkN | apply goBlkR | apply goBlkE | apply goSeqE | apply goLoopR | apply goLoopE | refine xOp ?_ | refine xOp0 ?_ | refine xYes ?_ | refine xNo ?_ | refine xNoU ?_ | refine xIfT ?_ | refine xIfF ?_ | refine xIf ?_ ?_ | refine xSplit ?_ ?_ | refine xIfQ ?_ ?_ | refine xSplitQ ?_ ?_ | refine xBlkX ?_ | intro _)
    clear e94 st3 hG3 hp4 hGC hr1
    have hjl : ∀ d, (ja L s sz sp d (List.replicate N 0)).length = N := fun d => by rw [ja_len]; simp
    refine goLoop (fun m s1 K => ∃ d : Nat, m = L.length - d ∧ d ≤ L.length ∧ get s1 1 = sv ∧ get s1 2 = av ∧ get s1 3 = bv ∧ get s1 8 = .ptr p0 q0 0 ∧ get s1 14 = .ptr p4 q4 0 ∧ get s1 15 = .int .i64 0 ∧ get s1 93 = lv ∧ get s1 94 = .int .i64 L.length ∧ get s1 95 = .int .i64 d ∧ Ext H K ∧ q4 < K.c ∧ OwnC H K p0 q0 [.nilS, .nilS] ∧ OwnC GB K p4 q4 [shv, dav] ∧ Rep G2.c K (clT sv s) shv b1 ∧ Rep G2.c K (trF (ja L s sz sp d (List.replicate N 0))) dav b2) L.length ?_ ?_
    · exact ⟨0, rfl, Nat.zero_le _, rfl, rfl, rfl, rfl, rfl, rfl, rfl, rfl, rfl, hxC.out, hq4lt, d0C.out, d4.out, rsC.out, rdC.out⟩
    clear hxC d0C d4 rsC rdC hq4lt
    rintro m3 s3 K ⟨g, hmm, hg, g1, g2, g3, g4, g5, g6, g7, g8, g9, hx, hq4K, d0, d4, hrs, hrd⟩
    simp only [cut_cons, cut_nil, g1, g2, g3, g4, g5, g6, g7, g8, g9]
    clear g1 g2 g3 g4 g5 g6 g7 g8 g9
    have hg0 : (0 : Int) ≤ g := Int.natCast_nonneg g
    have hw1 : w ((g : Int) + 1) = ((g + 1 : Nat) : Int) := w_id (by omega)
    by_cases hgn : g < L.length
    · have hgn' : (g : Int) < L.length := by omega
      have hokg : tOK (tth L g) = true ∧ (tth L g).1 = sizeL s sz sp g := by
        have := (allN_iff _ _).1 hok1.out g hgn
        simp only [ok1, Bool.and_eq_true] at this
        exact ⟨this.1, sameL_eq this.2⟩
      have hmay : mayCut s sz sp g := ⟨h2, h3, hg0, by omega⟩
      obtain ⟨hfl, hzl, hrng⟩ := part_rng hmay
      have hshz : shapeOK (sizeL s sz sp g) = true := by
        have := hokg.1; simp only [tOK, Bool.and_eq_true] at this; rw [← hokg.2]; exact this.1
      have hdl : ((tth L g).2.length : Int) = sizeOf (sizeL s sz sp g) := by
        have := hokg.1; simp only [tOK, Bool.and_eq_true, decide_eq_true_eq] at this; rw [← hokg.2]; exact this.2
      have hwh := fun (i : Int) (h0 : 0 ≤ i) (h1 : i < sizeOf (sizeL s sz sp g)) => whole_in hmay hshz h0 h1
      have hjs : ja L s sz sp (g + 1) (List.replicate N 0) = jd s (fromL s sz sp g) (tth L g).1 (tth L g).2 (tth L g).2.length (ja L s sz sp g (List.replicate N 0)) := rfl
      obtain ⟨q, x, y, hr1, hr2H, hr3, _⟩ := (tensL_at hL.out).2.2 g hgn
      have hr2 := aload_ext hx.pre hr2H
      obtain ⟨_, _, hag, hxi, hyi⟩ := tens_some hr3
      cases hag
      rw [hokg.2] at hxi hjs
      have hjlg := hjl g
      generalize hD : ja L s sz sp g (List.replicate N 0) = D at *
      have hs4 : s.length ≤ 4 := (shapeOK_rng h2).1
      -- a copy of the part
      have st1 := st40 (x := x) (y := y) (new_at K [.nilS, .nilS]) (ints_one' hxi) (ints_one' hyi)
      have x1 : Ext K (K.new [.nilS, .nilS]) := (Ext.refl hx.wf).new _
      have x2 : Ext K ((K.new [.nilS, .nilS]).put K.bs.length ⟨K.c, [x, y], true, true⟩) := put_ext hx.wf x1 (Nat.le_refl _) (new_at _ _)
      have d5 : OwnC K ((K.new [.nilS, .nilS]).put K.bs.length ⟨K.c, [x, y], true, true⟩) K.bs.length K.c [x, y] := ⟨Nat.le_refl _, at_put_same (new_at K _) rfl⟩
      have hq5lt : K.c < ((K.new [.nilS, .nilS]).put K.bs.length ⟨K.c, [x, y], true, true⟩).c := Nat.lt_succ_self _
      generalize hK1 : K.new [.nilS, .nilS] = K1 at *
      generalize hK2 : K1.put K.bs.length ⟨K.c, [x, y], true, true⟩ = K2 at *
      have hx2 := hx.trans x2
      -- where it begins
      have e22 : F22 [sv, av, bv, .int .i64 g] K2 = some (mkS K2 (fromL s sz sp g)) := by
        simp only [F22, ints_ext hx2.pre hs.out, ints_ext hx2.pre hsz.out, ints_ext hx2.pre hsp.out, Option.bind_some, Option.map_some]
      have x3 := mkS_ext hx2.wf (fromL s sz sp g)
      obtain ⟨bf, rf, ff⟩ := (mkS_own K2 (fromL s sz sp g)).repS x3.wf
      generalize hFR : fromL s sz sp g = FR at *
      generalize hSZ : sizeL s sz sp g = SZ at *
      generalize hDT : (tth L g).2 = DT at *
      generalize hr4 : mkS K2 FR = r4 at *
      obtain ⟨fv, K3⟩ := r4
      simp only at x3 rf ff
      have x23 := x2.trans x3
      have hx3 := hx2.trans x3
      have d03 := d0.ext x23.pre
      have d43 := d4.ext x23.pre
      have d53 := d5.ext x3.pre
      have hrs3 := hrs.ext x23.pre
      have hrd3 := hrd.ext x23.pre
      have l38 := ld38 d53.at' 1
      simp only [List.getElem?_cons_zero, List.getElem?_cons_succ] at l38
      have hyl := alenS_ints hyi
      rw [← alen38] at hyl
      have hyl' : alen T 38 y = some (.int .i64 DT.length) := hyl
      have hKq : K.c < K3.c := by have := x3.c; omega
      -- x and y came in
      have hDTl : DT.length ≤ 4096 := by have := sizeOf_le SZ; omega
      replace hdl := Hide.mk hdl
      replace hx := Hide.mk hx
      replace x23 := Hide.mk x23
      replace hx3 := Hide.mk hx3
      replace d03 := Hide.mk d03
      replace d43 := Hide.mk d43
      replace d53 := Hide.mk d53
      replace hrs3 := Hide.mk hrs3
      replace hrd3 := Hide.mk hrd3
      replace rf := Hide.mk rf
      replace ff := Hide.mk ff
      replace hwh := Hide.mk hwh
      replace hjs := Hide.mk hjs
      replace hrng := Hide.mk hrng
      replace hxi := Hide.mk hxi
      replace hyi := Hide.mk hyi
      clear hrs hrd d0 d4 d5 x1 x2 x3 hx2 hyl hr3 hokg hmay hr2H
      repeat' (first | apply goSeq | apply goReg | apply goSeqN | apply goSeqR | apply goSkip | apply goRet | apply goNil | apply goBlock | apply goExit | apply goBlkN | apply goBlkR | apply goBlkE | apply goSeqE | apply goLoopR | apply goLoopE | refine xOp ?_ | refine xOp0 ?_ | refine xYes ?_ | refine xNo ?_ | refine xNoU ?_ | refine xIfT ?_ | refine xIfF ?_ | refine xIf ?_ ?_ | refine xSplit ?_ ?_ | refine xIfQ ?_ ?_ | refine xSplitQ ?_ ?_ | refine xBlkX ?_ | intro _)
      clear hr1 hr2 st1 hK1 hK2 e22 hr4 l38 hyl'
      have hq5 : K.c ≤ K2.c := Nat.le_of_lt hq5lt
      generalize hp5 : K.bs.length = p5 at *
      generalize hq5e : K.c = q5 at *
      have hjdl : ∀ i, (jd s FR SZ DT i D).length = N := fun i => by rw [jd_len]; exact hjlg
      refine goLoop (fun m s1 M => ∃ i : Nat, m = DT.length - i ∧ i ≤ DT.length ∧ get s1 1 = sv ∧ get s1 2 = av ∧ get s1 3 = bv ∧ get s1 8 = .ptr p0 q0 0 ∧ get s1 14 = .ptr p4 q4 0 ∧ get s1 15 = .int .i64 0 ∧ get s1 17 = .ptr p5 q5 0 ∧ get s1 18 = fv ∧ get s1 93 = lv ∧ get s1 94 = .int .i64 L.length ∧ get s1 95 = .int .i64 g ∧ get s1 106 = y ∧ get s1 107 = .int .i64 DT.length ∧ get s1 108 = .int .i64 i ∧ Ext H M ∧ K3.c ≤ M.c ∧ OwnC H M p0 q0 [.nilS, .nilS] ∧ OwnC GB M p4 q4 [shv, dav] ∧ OwnC K M p5 q5 [x, y] ∧ Rep G2.c M (clT sv s) shv b1 ∧ Rep G2.c M (trF (jd s FR SZ DT i D)) dav b2 ∧ Rep K2.c M (trS FR) fv bf) DT.length ?_ ?_
      · exact ⟨0, rfl, Nat.zero_le _, rfl, rfl, rfl, rfl, rfl, rfl, rfl, rfl, rfl, rfl, rfl, rfl, rfl, rfl, hx3.out, Nat.le_refl _, d03.out, d43.out, d53.out, hrs3.out, hrd3.out, rf.out⟩
      clear d03 d43 d53 hrs3 hrd3 rf hx3
      rintro m4 s4 M ⟨i, hmm4, hi, g1, g2, g3, g4, g5, g6, g7, g8, g9, g10, g11, g12, g13, g14, hxM, hcM, d0, d4, d5, hrs, hrd, rf⟩
      simp only [cut_cons, cut_nil, g1, g2, g3, g4, g5, g6, g7, g8, g9, g10, g11, g12, g13, g14]
      clear g1 g2 g3 g4 g5 g6 g7 g8 g9 g10 g11 g12 g13 g14
      have hi0 : (0 : Int) ≤ i := Int.natCast_nonneg i
      have hw2 : w ((i : Int) + 1) = ((i + 1 : Nat) : Int) := w_id (by omega)
      by_cases hin : i < DT.length
      · have hin' : (i : Int) < DT.length := by omega
        have hyM := ints_ext hxM.pre hyi.out
        have hxiM := ints_ext hxM.pre hxi.out
        have hixy : aidx T 38 y (.int .i64 i) = some (pAt y i) := by
          rw [aidx38, aidxS_ints hyM .i64 i, if_pos ⟨hi0, hin'⟩]
        have hldy : aload T 2 (pAt y i) M = some (.int .i64 (nth DT i)) := aload_nth T2 rfl hyM i hi0 hin'
        have l22 := ld22 d5.at' 0
        simp only [List.getElem?_cons_zero] at l22
        have e95 : F95 [x, .int .i64 i] M = some (mkF M (meshAt SZ i)) := by
          simp only [F95, hxiM, Option.map_some]
          rw [if_neg (by have := hdl.out; omega)]
        have xm := mkF_ext hxM.wf (meshAt SZ i)
        have hml := meshAt_len SZ i
        have hmli : (meshAt SZ i).length = s.length := by rw [hml, hzl]
        have hjd : jd s FR SZ DT (i + 1) D = (jd s FR SZ DT i D).set (idxL s (addL (meshAt SZ i) FR)).toNat (nth DT i) := rfl
        have hwi := hwh.out i hi0 (by have := hdl.out; omega)
        generalize hP : meshAt SZ i = P at *
        have hmk : (mkF M P).1 = .sl M.bs.length M.c 0 s.length 1 true := by simp [mkF, hmli]
        have rp : Rep M.c (mkF M P).2 (trF P) (mkF M P).1 [(M.bs.length, M.c)] := rep_F.2 ⟨_, _, rfl, Nat.le_refl _, new_at _ _, rfl⟩
        have hpM : M.c < (mkF M P).2.c := Nat.lt_succ_self _
        generalize hr5 : mkF M P = r5 at *
        obtain ⟨pl, M1⟩ := r5
        simp only at xm hmk rp hpM
        have hlp : alen T 22 pl = some (.int .i64 s.length) := by rw [alen22, hmk]; rfl
        have hxM1 := hxM.trans xm
        have d01 := d0.ext xm.pre
        have d41 := d4.ext xm.pre
        have d51 := d5.ext xm.pre
        have hrs1 := hrs.ext xm.pre
        have hrd1 := hrd.ext xm.pre
        have rf1 := rf.ext xm.pre
        generalize hpb : M.bs.length = pb at *
        generalize hpv : M.c = pv at *
        replace hxM := Hide.mk hxM
        replace hxM1 := Hide.mk hxM1
        replace xm := Hide.mk xm
        replace d01 := Hide.mk d01
        replace d41 := Hide.mk d41
        replace d51 := Hide.mk d51
        replace hrs1 := Hide.mk hrs1
        replace hrd1 := Hide.mk hrd1
        replace rf1 := Hide.mk rf1
        replace rp := Hide.mk rp
        replace hjd := Hide.mk hjd
        replace hwi := Hide.mk hwi
        have hmkh := Hide.mk hmk
        replace hP := Hide.mk hP
        clear d0 d4 d5 hrs hrd rf hyM hxiM hmk
        repeat' (first | apply goSeq | apply goReg | apply goSeqN | apply goSeqR | apply goSkip | apply goRet | apply goNil | apply goBlock | apply goExit | apply goBlkN | apply goBlkR | apply goBlkE | apply goSeqE | apply goLoopR | apply goLoopE | refine xOp ?_ | refine xOp0 ?_ | refine xYes ?_ | refine xNo ?_ | refine xNoU ?_ | refine xIfT ?_ | refine xIfF ?_ | refine xIf ?_ ?_ | refine xSplit ?_ ?_ | refine xIfQ ?_ ?_ | refine xSplitQ ?_ ?_ | refine xBlkX ?_ | intro _)
        clear hixy hldy l22 e95 hr5 hlp
        refine goLoop (fun m s1 Q => ∃ k : Nat, m = s.length - k ∧ k ≤ s.length ∧ get s1 1 = sv ∧ get s1 2 = av ∧ get s1 3 = bv ∧ get s1 8 = .ptr p0 q0 0 ∧ get s1 14 = .ptr p4 q4 0 ∧ get s1 15 = .int .i64 0 ∧ get s1 17 = .ptr p5 q5 0 ∧ get s1 18 = fv ∧ get s1 20 = .int .i64 (nth DT i) ∧ get s1 21 = pl ∧ get s1 93 = lv ∧ get s1 94 = .int .i64 L.length ∧ get s1 95 = .int .i64 g ∧ get s1 106 = y ∧ get s1 107 = .int .i64 DT.length ∧ get s1 108 = .int .i64 i ∧ get s1 118 = .int .i64 s.length ∧ get s1 119 = .int .i64 k ∧ Ext H Q ∧ pv ≤ Q.c ∧ OwnC H Q p0 q0 [.nilS, .nilS] ∧ OwnC GB Q p4 q4 [shv, dav] ∧ OwnC K Q p5 q5 [x, y] ∧ Rep G2.c Q (clT sv s) shv b1 ∧ Rep G2.c Q (trF (jd s FR SZ DT i D)) dav b2 ∧ Rep K2.c Q (trS FR) fv bf ∧ Rep pv Q (trF (addL (P.take k) (FR.take k) ++ P.drop k)) pl [(pb, pv)]) s.length ?_ ?_
        · exact ⟨0, rfl, Nat.zero_le _, rfl, rfl, rfl, rfl, rfl, rfl, rfl, rfl, rfl, rfl, rfl, rfl, rfl, rfl, rfl, rfl, rfl, rfl, hxM1.out, Nat.le_of_lt hpM, d01.out, d41.out, d51.out, hrs1.out, hrd1.out, rf1.out, by simpa [addL] using rp.out⟩
        clear d01 d41 d51 hrs1 hrd1 rf1 rp hxM1
        rintro m5 s5 Q ⟨k, hmm5, hk, g1, g2, g3, g4, g5, g6, g7, g8, g9, g10, g11, g12, g13, g14, g15, g16, g17, g18, hxQ, hcQ, d0, d4, d5, hrs, hrd, rf, rp⟩
        simp only [cut_cons, cut_nil, g1, g2, g3, g4, g5, g6, g7, g8, g9, g10, g11, g12, g13, g14, g15, g16, g17, g18]
        clear g1 g2 g3 g4 g5 g6 g7 g8 g9 g10 g11 g12 g13 g14 g15 g16 g17 g18
        have hk0 : (0 : Int) ≤ k := Int.natCast_nonneg k
        have hw3 : w ((k : Int) + 1) = ((k + 1 : Nat) : Int) := w_id (by omega)
        have hcl : (addL (P.take k) (FR.take k) ++ P.drop k).length = s.length := by simp [addL_len]; omega
        have hq0p : q0 ≠ pv := by omega
        have hq4p : q4 ≠ pv := by omega
        have hq5p : q5 ≠ pv := by omega
        have hb1p : ∀ p ∈ b1, p ≠ (pb, pv) := fun p hp e => by have := (hd12.out.2 p (by simp [hp])).2; rw [e] at this; simp only at this; omega
        have hb2p : ∀ p ∈ b2, p ≠ (pb, pv) := fun p hp e => by have := (hd12.out.2 p (by simp [hp])).2; rw [e] at this; simp only at this; omega
        have hbfp : ∀ p ∈ bf, p ≠ (pb, pv) := fun p hp e => by have := (ff.out.2 p hp).2; rw [e] at this; simp only at this; omega
        by_cases hks : k < s.length
        · have hks' : (k : Int) < s.length := by omega
          have hpi := isL.ints (.inr (.inl rfl)) (by omega) rp
          have hfi := isL.ints (.inl rfl) (by omega) rf
          have hixp : aidx T 22 pl (.int .i64 k) = some (pAt pl k) := by
            rw [aidx22, aidxS_ints hpi .i64 k, if_pos (by omega)]
          have hldp : aload T 3 (pAt pl k) Q = some (.int .i64 (nth P k)) := by
            rw [aload_nth T3 rfl hpi k hk0 (by omega), nth_addL P FR k (by omega)]
          have hixf : aidx T 22 fv (.int .i64 k) = some (pAt fv k) := by
            rw [aidx22, aidxS_ints hfi .i64 k, if_pos (by omega)]
          have hldf : aload T 3 (pAt fv k) Q = some (.int .i64 (nth FR k)) := aload_nth T3 rfl hfi k hk0 (by omega)
          rw [← trF_B] at rp
          obtain ⟨Q2, e3, rp2, k3, x5, c5⟩ := rep_store (.inl rfl) rp k (by omega) (w (nth P k + nth FR k))
          rw [addL_take P FR k (by omega) (by omega), trF_B] at rp2
          have d02 := d0.keep (k3 p0 q0 (fun hm => hq0p (by simpa using congrArg Prod.snd (List.mem_singleton.1 hm))))
          have d42 := d4.keep (k3 p4 q4 (fun hm => hq4p (by simpa using congrArg Prod.snd (List.mem_singleton.1 hm))))
          have d52 := d5.keep (k3 p5 q5 (fun hm => hq5p (by simpa using congrArg Prod.snd (List.mem_singleton.1 hm))))
          have hrs2 := Rep.keep _ (fun p hp => k3 p.1 p.2 (fun hm => hb1p p hp (List.mem_singleton.1 hm))) hrs
          have hrd2 := Rep.keep _ (fun p hp => k3 p.1 p.2 (fun hm => hb2p p hp (List.mem_singleton.1 hm))) hrd
          have rf2 := Rep.keep _ (fun p hp => k3 p.1 p.2 (fun hm => hbfp p hp (List.mem_singleton.1 hm))) rf
          have hxQ2 := x5 H hw hxQ (by have := hxM.out.c; omega)
          have hcQ2 : pv ≤ Q2.c := by rw [c5]; exact hcQ
          replace hxQ2 := Hide.mk hxQ2
          replace d02 := Hide.mk d02
          replace d42 := Hide.mk d42
          replace d52 := Hide.mk d52
          replace hrs2 := Hide.mk hrs2
          replace hrd2 := Hide.mk hrd2
          replace rf2 := Hide.mk rf2
          replace rp2 := Hide.mk rp2
          clear d0 d4 d5 hrs hrd rf rp hpi hfi k3 x5 c5 hxQ hb1p hb2p hbfp hq0p hq4p hq5p hcl
          repeat' (first | apply goSeq | apply goReg | apply goSeqN | apply goSeqR | apply goSkip | apply goRet | apply goNil | apply goBlock | apply goExit | apply goBlkN | apply goBlkR | apply goBlkE | apply goSeqE | apply goLoopR | apply goLoopE | refine xOp ?_ | refine xOp0 ?_ | refine xYes ?_ | refine xNo ?_ | refine xNoU ?_ | refine xIfT ?_ | refine xIfF ?_ | refine xIf ?_ ?_ | refine xSplit ?_ ?_ | refine xIfQ ?_ ?_ | refine xSplitQ ?_ ?_ | refine xBlkX ?_ | intro _)
          exact goLoopN (s.length - (k + 1)) (by omega) ⟨k + 1, rfl, by omega, rfl, rfl, rfl, rfl, rfl, rfl, rfl, rfl, rfl, rfl, rfl, rfl, rfl, rfl, rfl, rfl, rfl, rfl, hxQ2.out, hcQ2, d02.out, d42.out, d52.out, hrs2.out, hrd2.out, rf2.out, rp2.out⟩
        · have hks' : ¬ (k : Int) < s.length := by omega
          have hkE : k = s.length := by omega
          subst hkE
          have hPl : P.length = s.length := by omega
          have hall : addL (P.take s.length) (FR.take s.length) ++ P.drop s.length = addL P FR := by
            rw [List.take_of_length_le (by omega), List.take_of_length_le (by omega), List.drop_of_length_le (by omega), List.append_nil]
          rw [hall] at rp
          have hai := isL.ints (.inr (.inl rfl)) (by rw [addL_len]; omega) rp
          have hsQ := ints_ext hxQ.pre hs.out
          have hii := idxL_in h2 (by rw [addL_len]; exact hPl) (fun j hj => (hwi.out j hj).2)
          obtain ⟨ix, hix⟩ : ∃ ix : Nat, idxL s (addL P FR) = ix := ⟨(idxL s (addL P FR)).toNat, by omega⟩
          have e96 : F96 [sv, pl] Q = some (.int .i64 ix) := by
            simp only [F96, hsQ, hai, Option.bind_some, Option.map_some, hix]
          have l38 := ld38 d4.at' 1
          simp only [List.getElem?_cons_zero, List.getElem?_cons_succ] at l38
          have hdi := isL.ints (.inr (.inl rfl)) (by rw [hjdl]; omega) hrd
          have hixd : aidx T 38 dav (.int .i64 ix) = some (pAt dav ix) := by
            rw [aidx38, aidxS_ints hdi .i64 ix, if_pos (by rw [hjdl]; omega)]
          rw [← trF_B] at hrd
          obtain ⟨Q2, e3, rd2, k3, x5, c5⟩ := rep_store (.inr rfl) hrd ix (by rw [hjdl]; omega) (nth DT i)
          have hjd' := hjd.out
          rw [hix, Int.toNat_natCast] at hjd'
          rw [← hjd', trF_B] at rd2
          have hnd := List.nodup_append.1 hd12.out.1
          have d02 := d0.keep (k3 p0 q0 (fun hm => by have := (hd12.out.2 _ (List.mem_append_right b1 hm)).1; simp only at this; omega))
          have d42 := d4.keep (k3 p4 q4 (fun hm => by have := (hd12.out.2 _ (List.mem_append_right b1 hm)).2; simp only at this; omega))
          have d52 := d5.keep (k3 p5 q5 (fun hm => by have := (hd12.out.2 _ (List.mem_append_right b1 hm)).2; simp only at this; omega))
          have hrs2 := Rep.keep _ (fun p hp => k3 p.1 p.2 (fun hm => hnd.2.2 p hp p hm rfl)) hrs
          have rf2 := Rep.keep _ (fun p hp => k3 p.1 p.2 (fun hm => by have := (hd12.out.2 _ (List.mem_append_right b1 hm)).2; have := (ff.out.2 p hp).1; simp only at *; omega)) rf
          have hxQ2 := x5 H hw hxQ (by omega)
          have hcQ2 : K3.c ≤ Q2.c := by rw [c5]; omega
          replace hxQ2 := Hide.mk hxQ2
          replace d02 := Hide.mk d02
          replace d42 := Hide.mk d42
          replace d52 := Hide.mk d52
          replace hrs2 := Hide.mk hrs2
          replace rd2 := Hide.mk rd2
          replace rf2 := Hide.mk rf2
          clear d0 d4 d5 hrs hrd rf rp hai hdi k3 x5 c5 hxQ hb1p hb2p hbfp hq0p hq4p hq5p hcl hall hPl hii hnd hsQ hjd' hjd
          replace hix := Hide.mk hix
          repeat' (first | apply goSeq | apply goReg | apply goSeqN | apply goSeqR | apply goSkip | apply goRet | apply goNil | apply goBlock | apply goExit | apply goBlkN | apply goBlkR | apply goBlkE | apply goSeqE | apply goLoopR | apply goLoopE | refine xOp ?_ | refine xOp0 ?_ | refine xYes ?_ | refine xNo ?_ | refine xNoU ?_ | refine xIfT ?_ | refine xIfF ?_ | refine xIf ?_ ?_ | refine xSplit ?_ ?_ | refine xIfQ ?_ ?_ | refine xSplitQ ?_ ?_ | refine xBlkX ?_ | intro _)
          exact goLoopN (DT.length - (i + 1)) (by omega) ⟨i + 1, rfl, by omega, rfl, rfl, rfl, rfl, rfl, rfl, rfl, rfl, rfl, rfl, rfl, rfl, rfl, rfl, hxQ2.out, hcQ2, d02.out, d42.out, d52.out, hrs2.out, rd2.out, rf2.out⟩
      · have hin' : ¬ (i : Int) < DT.length := by omega
        have hiE : i = DT.length := by omega
        subst hiE
        rw [← hjs.out] at hrd
        replace hxM := Hide.mk hxM
        replace d0 := Hide.mk d0
        replace d4 := Hide.mk d4
        replace d5 := Hide.mk d5
        replace hrs := Hide.mk hrs
        replace hrd := Hide.mk hrd
        replace rf := Hide.mk rf
        repeat' (first | apply goSeq | apply goReg | apply goSeqN | apply goSeqR | apply goSkip | apply goRet | apply goNil | apply goBlock | apply goExit | apply goBlkN | apply goBlkR | apply goBlkE | apply goSeqE | apply goLoopR | apply goLoopE | refine xOp ?_ | refine xOp0 ?_ | refine xYes ?_ | refine xNo ?_ | refine xNoU ?_ | refine xIfT ?_ | refine xIfF ?_ | refine xIf ?_ ?_ | refine xSplit ?_ ?_ | refine xIfQ ?_ ?_ | refine xSplitQ ?_ ?_ | refine xBlkX ?_ | intro _)
        exact goLoopN (L.length - (g + 1)) (by omega) ⟨g + 1, rfl, by omega, rfl, rfl, rfl, rfl, rfl, rfl, rfl, rfl, rfl, hxM.out, by omega, d0.out, d4.out, hrs.out, hrd.out⟩
    have hgn' : ¬ (g : Int) < L.length := by omega
    have hgE : g = L.length := by omega
    subst hgE
    rw [hD0.out] at hrd
    have lr4 := ld40 d4.at'
    have d0' := d0.at'
    have st := st40 (x := shv) (y := dav) d0' hone hone2
    have hkp : ∀ b' ver', ver' ≠ q0 → Keeps K (K.put p0 ⟨q0, [shv, dav], true, true⟩) b' ver' := fun b' ver' h => Keeps.put d0' h
    have lr := ld40 (at_put_same (k' := ⟨q0, [shv, dav], true, true⟩) d0' rfl)
    have hp := put_ext (cs := [shv, dav]) hw hx hHc d0'
    replace d0 := Hide.mk d0
    replace d4 := Hide.mk d4
    replace d0' := Hide.mk d0'
    replace hkp := Hide.mk hkp
    replace hx := Hide.mk hx
    replace hrs := Hide.mk hrs
    replace hrd := Hide.mk hrd
    replace hp := Hide.mk hp
    repeat' (first | apply goSeq | apply goReg | apply goSeqN | apply goSeqR | apply goSkip | apply goRet | apply goNil | apply goBlock | apply goExit | apply goBlkN | apply goBlkR | apply goBlkE | apply goSeqE | apply goLoopR | apply goLoopE | refine xOp ?_ | refine xOp0 ?_ | refine xYes ?_ | refine xNo ?_ | refine xNoU ?_ | refine xIfT ?_ | refine xIfF ?_ | refine xIf ?_ ?_ | refine xSplit ?_ ?_ | refine xIfQ ?_ ?_ | refine xSplitQ ?_ ?_ | refine xBlkX ?_ | intro _)
    have hlo : ∀ p ∈ b1 ++ b2, p.2 ≠ q0 := fun p hp => by have := (hd12.out.2 p hp).1; omega
    refine goEndR (vs := [.agg [shv, dav], .int .i64 0]) (bs := b1 ++ b2) (d := q4) (t := okTn (clT sv s) (trF DD)) hw hp.out.pre ?_ ?_ (by simp) (by simp [rs38, lr]) rfl hvv.out
    · unfold okTn
      show Rep _ _ _ (AV.tup [_, _]) _
      rw [rep_tupI]
      refine rep_agg2.2 ⟨shv, dav, b1, b2, rfl, ?_, ?_, rfl⟩
      · exact rep_down _ (c0 := 0) hokc (Nat.zero_le _) (by omega) (Rep.keep _ (fun p hp => hkp.out p.1 p.2 (hlo p (by simp [hp]))) hrs.out)
      · exact rep_down _ (c0 := 0) (okT_F 0 _) (Nat.zero_le _) (by omega) (Rep.keep _ (fun p hp => hkp.out p.1 p.2 (hlo p (by simp [hp]))) hrd.out)
    · exact hd12.out.wide (by omega) (Nat.le_refl _)
  · cases hv
end Go.Proofs.Ytokadkakmhfdeaa.Pq
