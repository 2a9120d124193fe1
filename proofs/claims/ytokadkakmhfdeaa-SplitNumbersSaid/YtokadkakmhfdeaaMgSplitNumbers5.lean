/- What the proof of a statement of this seat rests on, part 5: PqC8, PqC9, PqWO, PqWP, PqWQ, PqWR, PqWS, PqWT, PqTt, PqX6, PqWU, PqX7, PqTl, PqSl, PqZr. -/
import Derived.Test.YtokadkakmhfdeaaMgSplitNumbers4
set_option linter.unusedVariables false
set_option linter.unusedSimpArgs false
set_option linter.unusedSectionVars false
namespace Go.Proofs.Ytokadkakmhfdeaa.Pq
open Go.RowKit
/- Functions in short form. -/
/-! parquetry/parquetrylaw17.made (1 parameters; calls 16 (*parquetry/parquetrykeep.Tape).Next, 17 (*parquetry/parquetrykeep.Tape).Shape, 18 (*parquetry/parquetrykeep.Tape).Spec, 80 (*parquetry/parquetrykeep.Tape).Tensor) -/
def A31 : Ann := { recs := fun i => if i = 4 then [(0, 8), (1, 8), (1, 9)] else [], drop := fun i => false }
noncomputable def c31 : Cc :=
  (.seq (.reg false [⟨some 2, (Op.alloc 40), none⟩,
    ⟨some 3, (Op.assign (Operand.const (Value.slice none 0 0))), none⟩,
    ⟨some 4, (Op.assign (Operand.const (Value.slice none 0 0))), none⟩])
  (.seq (.reg false [⟨some 8, (Op.move (Operand.tmp 0)), none⟩,
    ⟨some 9, (Op.build 25 #[(0, (Operand.tmp 8))]), none⟩,
    ⟨some 10, (Op.box 25 (Operand.tmp 9)), none⟩,
    ⟨some 5, (Op.assign (Operand.tmp 10)), none⟩])
  (.seq (.reg false [⟨some 11, (Op.buildSlice 22 1 #[(0, (Operand.const (Value.int IntKind.i64 2)))]), none⟩,
    ⟨some 12, (Op.buildSlice 22 2 #[(0, (Operand.const (Value.int IntKind.i64 2))), (1, (Operand.const (Value.int IntKind.i64 4)))]), none⟩,
    ⟨some 13, (Op.buildSlice 22 2 #[(0, (Operand.const (Value.int IntKind.i64 3))), (1, (Operand.const (Value.int IntKind.i64 2)))]), none⟩,
    ⟨some 14, (Op.buildSlice 22 3 #[(0, (Operand.const (Value.int IntKind.i64 2))), (1, (Operand.const (Value.int IntKind.i64 2))), (2, (Operand.const (Value.int IntKind.i64 2)))]), none⟩,
    ⟨some 15, (Op.buildSlice 22 0 #[]), none⟩,
    ⟨some 16, (Op.buildSlice 22 1 #[(0, (Operand.const (Value.int IntKind.i64 5)))]), none⟩,
    ⟨some 17, (Op.buildSlice 22 2 #[(0, (Operand.const (Value.int IntKind.i64 2))), (1, (Operand.const (Value.int IntKind.i64 2)))]), none⟩,
    ⟨some 18, (Op.buildSlice 26 7 #[(0, (Operand.tmp 11)), (1, (Operand.tmp 12)), (2, (Operand.tmp 13)), (3, (Operand.tmp 14)), (4, (Operand.tmp 15)), (5, (Operand.tmp 16)), (6, (Operand.tmp 17))]), none⟩,
    ⟨some 19, (Op.move (Operand.tmp 5)), none⟩,
    ⟨some 20, (Op.call { callee := (Callee.value (Operand.func 16)), args := #[(Operand.tmp 19), (Operand.const (Value.int IntKind.i64 7))], argTypes := #[23, 3] }), none⟩,
    ⟨some 21, (Op.indexAddr 26 (Operand.tmp 18) (Operand.tmp 20)), none⟩,
    ⟨some 22, (Op.load 22 (Operand.tmp 21)), none⟩,
    ⟨some 6, (Op.assign (Operand.tmp 22)), none⟩])
  (.seq (.reg false [⟨some 23, (Op.move (Operand.tmp 5)), none⟩,
    ⟨some 24, (Op.move (Operand.tmp 5)), none⟩,
    ⟨some 25, (Op.call { callee := (Callee.value (Operand.func 17)), args := #[(Operand.tmp 24)], argTypes := #[23] }), none⟩,
    ⟨some 26, (Op.call { callee := (Callee.value (Operand.func 80)), args := #[(Operand.tmp 23), (Operand.tmp 25)], argTypes := #[23, 22] }), none⟩,
    ⟨some 7, (Op.alloc 40), none⟩,
    ⟨none, (Op.store 40 (Operand.tmp 7) (Operand.tmp 26)), none⟩])
  (.seq (.drw false [⟨some 27, (Op.load 40 (Operand.tmp 7)), none⟩,
    ⟨some 28, (Op.move (Operand.tmp 6)), none⟩,
    ⟨some 29, (Op.move (Operand.tmp 5)), none⟩,
    ⟨some 30, (Op.move (Operand.tmp 6)), none⟩,
    ⟨some 31, (Op.fieldAddr 40 (Operand.tmp 7) 0), none⟩,
    ⟨some 32, (Op.load 22 (Operand.tmp 31)), none⟩,
    ⟨some 33, (Op.call { callee := (Callee.builtin Builtin.len), args := #[(Operand.tmp 32)], argTypes := #[22] }), none⟩,
    ⟨some 34, (Op.call { callee := (Callee.value (Operand.func 18)), args := #[(Operand.tmp 29), (Operand.tmp 30), (Operand.tmp 33)], argTypes := #[23, 22, 3] }), none⟩,
    ⟨none, (Op.store 40 (Operand.tmp 2) (Operand.tmp 27)), none⟩,
    ⟨some 3, (Op.assign (Operand.tmp 28)), none⟩,
    ⟨some 4, (Op.assign (Operand.tmp 34)), none⟩] [(0, 8)])
  .ret)))))
noncomputable def b31 : Code := Try.f31.body.getD .skip
theorem hb31 : Try.f31.body = some b31 := by kernel_rfl
theorem sh31 : shortC A31 b31 = c31 := by kernel_rfl
def rs31 : List ResultVar := [(ResultVar.cell 2 40), (ResultVar.tmp 3), (ResultVar.tmp 4)]
theorem hr31 : Try.f31.results.toList = rs31 := by kernel_rfl
/-! parquetry/axes.Sliced (3 parameters; calls none) -/
def A160 : Ann := { live := fun i => if i = 4 then [1, 2, 21, 22, 23] else [], drop := fun i => false }
noncomputable def c160 : Cc :=
  (.seq (.reg false [⟨some 6, (Op.assign (Operand.const (Value.int IntKind.i64 0))), none⟩])
  (.seq (.seq (.reg false [⟨some 9, (Op.move (Operand.tmp 1)), none⟩,
    ⟨some 10, (Op.call { callee := (Callee.builtin Builtin.len), args := #[(Operand.tmp 9)], argTypes := #[22] }), none⟩,
    ⟨some 11, (Op.move (Operand.tmp 0)), none⟩,
    ⟨some 12, (Op.call { callee := (Callee.builtin Builtin.len), args := #[(Operand.tmp 11)], argTypes := #[22] }), none⟩,
    ⟨some 13, (Op.binOp BinOp.neq 3 (Operand.tmp 10) (Operand.tmp 12) 3), none⟩,
    ⟨some 14, (Op.move (Operand.tmp 13)), none⟩,
    ⟨some 15, (Op.move (Operand.tmp 2)), some (14, false)⟩,
    ⟨some 16, (Op.call { callee := (Callee.builtin Builtin.len), args := #[(Operand.tmp 15)], argTypes := #[22] }), some (14, false)⟩,
    ⟨some 17, (Op.move (Operand.tmp 0)), some (14, false)⟩,
    ⟨some 18, (Op.call { callee := (Callee.builtin Builtin.len), args := #[(Operand.tmp 17)], argTypes := #[22] }), some (14, false)⟩,
    ⟨some 19, (Op.binOp BinOp.neq 3 (Operand.tmp 16) (Operand.tmp 18) 3), some (14, false)⟩,
    ⟨some 20, (Op.pick (Operand.tmp 14) (Operand.const (Value.bool true)) (Operand.tmp 19)), none⟩])
  (.cond (Operand.tmp 20)
    (.seq (.reg false [⟨some 6, (Op.assign (Operand.const (Value.int IntKind.i64 1))), none⟩])
    .ret)
    .skip))
  (.seq (.seq (.reg false [⟨some 21, (Op.move (Operand.tmp 0)), none⟩,
    ⟨some 22, (Op.call { callee := (Callee.builtin Builtin.len), args := #[(Operand.tmp 21)], argTypes := #[22] }), none⟩,
    ⟨some 23, (Op.move (Operand.const (Value.int IntKind.i64 0))), none⟩])
  (.block 0 (.loop [1, 2, 21, 22, 23] false
    (.seq (.reg false [⟨some 24, (Op.binOp BinOp.lss 3 (Operand.tmp 23) (Operand.tmp 22) 3), none⟩])
    (.seq (.cond (Operand.tmp 24)
      .skip
      (.exit 0))
    (.seq (.block 1 (.seq (.reg false [⟨some 25, (Op.move (Operand.tmp 23)), none⟩,
      ⟨some 26, (Op.indexAddr 22 (Operand.tmp 21) (Operand.tmp 23)), none⟩,
      ⟨some 27, (Op.load 3 (Operand.tmp 26)), none⟩,
      ⟨some 7, (Op.assign (Operand.tmp 25)), none⟩,
      ⟨some 8, (Op.assign (Operand.tmp 27)), none⟩])
    (.seq (.reg false [⟨some 28, (Op.move (Operand.tmp 1)), none⟩,
      ⟨some 29, (Op.move (Operand.tmp 7)), none⟩,
      ⟨some 30, (Op.indexAddr 22 (Operand.tmp 28) (Operand.tmp 29)), none⟩,
      ⟨some 31, (Op.load 3 (Operand.tmp 30)), none⟩,
      ⟨some 32, (Op.binOp BinOp.lss 3 (Operand.tmp 31) (Operand.const (Value.int IntKind.i64 0)) 3), none⟩,
      ⟨some 33, (Op.move (Operand.tmp 32)), none⟩,
      ⟨some 34, (Op.move (Operand.tmp 1)), some (33, false)⟩,
      ⟨some 35, (Op.move (Operand.tmp 7)), some (33, false)⟩,
      ⟨some 36, (Op.indexAddr 22 (Operand.tmp 34) (Operand.tmp 35)), some (33, false)⟩,
      ⟨some 37, (Op.load 3 (Operand.tmp 36)), some (33, false)⟩,
      ⟨some 38, (Op.move (Operand.tmp 8)), some (33, false)⟩,
      ⟨some 39, (Op.binOp BinOp.gtr 3 (Operand.tmp 37) (Operand.tmp 38) 3), some (33, false)⟩,
      ⟨some 40, (Op.pick (Operand.tmp 33) (Operand.const (Value.bool true)) (Operand.tmp 39)), none⟩,
      ⟨some 41, (Op.move (Operand.tmp 40)), none⟩,
      ⟨some 42, (Op.move (Operand.tmp 2)), some (41, false)⟩,
      ⟨some 43, (Op.move (Operand.tmp 7)), some (41, false)⟩,
      ⟨some 44, (Op.indexAddr 22 (Operand.tmp 42) (Operand.tmp 43)), some (41, false)⟩,
      ⟨some 45, (Op.load 3 (Operand.tmp 44)), some (41, false)⟩,
      ⟨some 46, (Op.binOp BinOp.lss 3 (Operand.tmp 45) (Operand.const (Value.int IntKind.i64 0)) 3), some (41, false)⟩,
      ⟨some 47, (Op.pick (Operand.tmp 41) (Operand.const (Value.bool true)) (Operand.tmp 46)), none⟩,
      ⟨some 48, (Op.move (Operand.tmp 47)), none⟩,
      ⟨some 49, (Op.move (Operand.tmp 2)), some (48, false)⟩,
      ⟨some 50, (Op.move (Operand.tmp 7)), some (48, false)⟩,
      ⟨some 51, (Op.indexAddr 22 (Operand.tmp 49) (Operand.tmp 50)), some (48, false)⟩,
      ⟨some 52, (Op.load 3 (Operand.tmp 51)), some (48, false)⟩,
      ⟨some 53, (Op.move (Operand.tmp 8)), some (48, false)⟩,
      ⟨some 54, (Op.move (Operand.tmp 1)), some (48, false)⟩,
      ⟨some 55, (Op.move (Operand.tmp 7)), some (48, false)⟩,
      ⟨some 56, (Op.indexAddr 22 (Operand.tmp 54) (Operand.tmp 55)), some (48, false)⟩,
      ⟨some 57, (Op.load 3 (Operand.tmp 56)), some (48, false)⟩,
      ⟨some 58, (Op.binOp BinOp.sub 3 (Operand.tmp 53) (Operand.tmp 57) 3), some (48, false)⟩,
      ⟨some 59, (Op.binOp BinOp.gtr 3 (Operand.tmp 52) (Operand.tmp 58) 3), some (48, false)⟩,
      ⟨some 60, (Op.pick (Operand.tmp 48) (Operand.const (Value.bool true)) (Operand.tmp 59)), none⟩])
    (.cond (Operand.tmp 60)
      (.seq (.reg false [⟨some 6, (Op.assign (Operand.const (Value.int IntKind.i64 1))), none⟩])
      .ret)
      .skip))))
    (.reg false [⟨some 61, (Op.binOp BinOp.add 3 (Operand.tmp 23) (Operand.const (Value.int IntKind.i64 1)) 3), none⟩,
      ⟨some 23, (Op.move (Operand.tmp 61)), none⟩])))))))
  (.seq (.reg false [⟨some 6, (Op.assign (Operand.const (Value.int IntKind.i64 0))), none⟩])
  .ret))))
noncomputable def b160 : Code := Try.f160.body.getD .skip
theorem hb160 : Try.f160.body = some b160 := by kernel_rfl
theorem sh160 : shortC A160 b160 = c160 := by kernel_rfl
def rs160 : List ResultVar := [(ResultVar.tmp 6)]
theorem hr160 : Try.f160.results.toList = rs160 := by kernel_rfl
/-! parquetry/axes.Slice$1 (1 parameters; calls 162 parquetry/axes.at) -/
def A161 : Ann := { live := fun i => if i = 2 then [0, 2, 7, 8, 9] else [], drop := fun i => false }
noncomputable def c161 : Cc :=
  (.seq (.reg false [⟨some 4, (Op.assign (Operand.const (Value.int IntKind.i64 0))), none⟩])
  (.seq (.seq (.reg false [⟨some 7, (Op.load 22 (Operand.tmp 1)), none⟩,
    ⟨some 8, (Op.call { callee := (Callee.builtin Builtin.len), args := #[(Operand.tmp 7)], argTypes := #[22] }), none⟩,
    ⟨some 9, (Op.move (Operand.const (Value.int IntKind.i64 0))), none⟩])
  (.block 0 (.loop [0, 2, 7, 8, 9] false
    (.seq (.reg false [⟨some 10, (Op.binOp BinOp.lss 3 (Operand.tmp 9) (Operand.tmp 8) 3), none⟩])
    (.seq (.cond (Operand.tmp 10)
      .skip
      (.exit 0))
    (.seq (.block 1 (.seq (.reg false [⟨some 11, (Op.move (Operand.tmp 9)), none⟩,
      ⟨some 12, (Op.indexAddr 22 (Operand.tmp 7) (Operand.tmp 9)), none⟩,
      ⟨some 13, (Op.load 3 (Operand.tmp 12)), none⟩,
      ⟨some 5, (Op.assign (Operand.tmp 11)), none⟩,
      ⟨some 6, (Op.assign (Operand.tmp 13)), none⟩])
    (.reg false [⟨some 14, (Op.move (Operand.tmp 0)), none⟩,
      ⟨some 15, (Op.move (Operand.tmp 5)), none⟩,
      ⟨some 16, (Op.indexAddr 22 (Operand.tmp 14) (Operand.tmp 15)), none⟩,
      ⟨some 17, (Op.load 3 (Operand.tmp 16)), none⟩,
      ⟨some 18, (Op.move (Operand.tmp 6)), none⟩,
      ⟨some 19, (Op.binOp BinOp.add 3 (Operand.tmp 17) (Operand.tmp 18) 3), none⟩,
      ⟨some 20, (Op.indexAddr 22 (Operand.tmp 14) (Operand.tmp 15)), none⟩,
      ⟨none, (Op.store 3 (Operand.tmp 20) (Operand.tmp 19)), none⟩])))
    (.reg false [⟨some 21, (Op.binOp BinOp.add 3 (Operand.tmp 9) (Operand.const (Value.int IntKind.i64 1)) 3), none⟩,
      ⟨some 9, (Op.move (Operand.tmp 21)), none⟩])))))))
  (.seq (.reg false [⟨some 22, (Op.load 40 (Operand.tmp 2)), none⟩,
    ⟨some 23, (Op.move (Operand.tmp 0)), none⟩,
    ⟨some 24, (Op.call { callee := (Callee.value (Operand.func 162)), args := #[(Operand.tmp 22), (Operand.tmp 23)], argTypes := #[40, 22] }), none⟩,
    ⟨some 4, (Op.assign (Operand.tmp 24)), none⟩])
  .ret)))
noncomputable def b161 : Code := Try.f161.body.getD .skip
theorem hb161 : Try.f161.body = some b161 := by kernel_rfl
theorem sh161 : shortC A161 b161 = c161 := by kernel_rfl
def rs161 : List ResultVar := [(ResultVar.tmp 4)]
theorem hr161 : Try.f161.results.toList = rs161 := by kernel_rfl
/-! parquetry/axes.Slice (3 parameters; calls 91 parquetry/tensor.Right, 138 parquetry/tensor.Made, 160 parquetry/axes.Sliced) -/
def A134 : Ann := { drop := fun i => false }
noncomputable def c134 : Cc :=
  (.seq (.reg false [⟨some 3, (Op.box 40 (Operand.tmp 0)), none⟩,
    ⟨some 4, (Op.box 22 (Operand.tmp 1)), none⟩,
    ⟨some 6, (Op.alloc 40), none⟩,
    ⟨some 7, (Op.assign (Operand.const (Value.int IntKind.i64 0))), none⟩])
  (.seq (.seq (.reg false [⟨some 9, (Op.load 40 (Operand.tmp 3)), none⟩,
    ⟨some 10, (Op.call { callee := (Callee.value (Operand.func 91)), args := #[(Operand.tmp 9)], argTypes := #[40] }), none⟩,
    ⟨some 11, (Op.unOp UnOp.not 4 (Operand.tmp 10)), none⟩])
  (.cond (Operand.tmp 11)
    (.seq (.reg false [⟨some 12, (Op.build 40 #[]), none⟩,
      ⟨none, (Op.store 40 (Operand.tmp 6) (Operand.tmp 12)), none⟩,
      ⟨some 7, (Op.assign (Operand.const (Value.int IntKind.i64 13))), none⟩])
    .ret)
    .skip))
  (.seq (.seq (.reg false [⟨some 13, (Op.fieldAddr 40 (Operand.tmp 3) 0), none⟩,
    ⟨some 14, (Op.load 22 (Operand.tmp 13)), none⟩,
    ⟨some 15, (Op.load 22 (Operand.tmp 4)), none⟩,
    ⟨some 16, (Op.move (Operand.tmp 2)), none⟩,
    ⟨some 17, (Op.call { callee := (Callee.value (Operand.func 160)), args := #[(Operand.tmp 14), (Operand.tmp 15), (Operand.tmp 16)], argTypes := #[22, 22, 22] }), none⟩,
    ⟨some 8, (Op.assign (Operand.tmp 17)), none⟩])
  (.seq (.reg false [⟨some 18, (Op.move (Operand.tmp 8)), none⟩,
    ⟨some 19, (Op.binOp BinOp.neq 46 (Operand.tmp 18) (Operand.const (Value.int IntKind.i64 0)) 46), none⟩])
  (.cond (Operand.tmp 19)
    (.seq (.reg false [⟨some 20, (Op.build 40 #[]), none⟩,
      ⟨some 21, (Op.move (Operand.tmp 8)), none⟩,
      ⟨none, (Op.store 40 (Operand.tmp 6) (Operand.tmp 20)), none⟩,
      ⟨some 7, (Op.assign (Operand.tmp 21)), none⟩])
    .ret)
    .skip)))
  (.seq (.reg false [⟨some 22, (Op.move (Operand.tmp 2)), none⟩,
    ⟨some 23, (Op.makeFunc (Fn.func 161) #[] #[(Operand.tmp 4), (Operand.tmp 3)]), none⟩,
    ⟨some 24, (Op.call { callee := (Callee.value (Operand.func 138)), args := #[(Operand.tmp 22), (Operand.tmp 23)], argTypes := #[22, 147] }), none⟩,
    ⟨none, (Op.store 40 (Operand.tmp 6) (Operand.tmp 24)), none⟩,
    ⟨some 7, (Op.assign (Operand.const (Value.int IntKind.i64 0))), none⟩])
  .ret))))
noncomputable def b134 : Code := Try.f134.body.getD .skip
theorem hb134 : Try.f134.body = some b134 := by kernel_rfl
theorem sh134 : shortC A134 b134 = c134 := by kernel_rfl
def rs134 : List ResultVar := [(ResultVar.cell 6 40), (ResultVar.tmp 7)]
theorem hr134 : Try.f134.results.toList = rs134 := by kernel_rfl
/-! parquetry/split.Part (4 parameters; calls 21 parquetry/tile.Size, 22 parquetry/tile.From, 87 parquetry/split.may, 88 parquetry/mesh.Devices, 134 parquetry/axes.Slice) -/
def A81 : Ann := { recs := fun i => if i = 6 then [(0, 7), (0, 13), (7, 6), (8, 6), (9, 6), (10, 6), (11, 6)] else [], drop := fun i => false }
noncomputable def c81 : Cc :=
  (.seq (.reg false [⟨some 4, (Op.box 40 (Operand.tmp 0)), none⟩,
    ⟨some 8, (Op.alloc 40), none⟩,
    ⟨some 9, (Op.assign (Operand.const (Value.int IntKind.i64 0))), none⟩])
  (.seq (.seq (.reg false [⟨some 11, (Op.load 40 (Operand.tmp 4)), none⟩,
    ⟨some 12, (Op.move (Operand.tmp 1)), none⟩,
    ⟨some 13, (Op.move (Operand.tmp 2)), none⟩,
    ⟨some 14, (Op.call { callee := (Callee.value (Operand.func 87)), args := #[(Operand.tmp 11), (Operand.tmp 12), (Operand.tmp 13)], argTypes := #[40, 22, 22] }), none⟩,
    ⟨some 10, (Op.assign (Operand.tmp 14)), none⟩])
  (.seq (.reg false [⟨some 15, (Op.move (Operand.tmp 10)), none⟩,
    ⟨some 16, (Op.binOp BinOp.neq 46 (Operand.tmp 15) (Operand.const (Value.int IntKind.i64 0)) 46), none⟩])
  (.cond (Operand.tmp 16)
    (.seq (.reg false [⟨some 17, (Op.build 40 #[]), none⟩,
      ⟨some 18, (Op.move (Operand.tmp 10)), none⟩,
      ⟨none, (Op.store 40 (Operand.tmp 8) (Operand.tmp 17)), none⟩,
      ⟨some 9, (Op.assign (Operand.tmp 18)), none⟩])
    .ret)
    .skip)))
  (.seq (.seq (.reg false [⟨some 19, (Op.move (Operand.tmp 3)), none⟩,
    ⟨some 20, (Op.binOp BinOp.lss 3 (Operand.tmp 19) (Operand.const (Value.int IntKind.i64 0)) 3), none⟩,
    ⟨some 21, (Op.move (Operand.tmp 20)), none⟩,
    ⟨some 22, (Op.move (Operand.tmp 3)), some (21, false)⟩,
    ⟨some 23, (Op.move (Operand.tmp 1)), some (21, false)⟩,
    ⟨some 24, (Op.call { callee := (Callee.value (Operand.func 88)), args := #[(Operand.tmp 23)], argTypes := #[22] }), some (21, false)⟩,
    ⟨some 25, (Op.binOp BinOp.geq 3 (Operand.tmp 22) (Operand.tmp 24) 3), some (21, false)⟩,
    ⟨some 26, (Op.pick (Operand.tmp 21) (Operand.const (Value.bool true)) (Operand.tmp 25)), none⟩])
  (.cond (Operand.tmp 26)
    (.seq (.reg false [⟨some 27, (Op.build 40 #[]), none⟩,
      ⟨none, (Op.store 40 (Operand.tmp 8) (Operand.tmp 27)), none⟩,
      ⟨some 9, (Op.assign (Operand.const (Value.int IntKind.i64 23))), none⟩])
    .ret)
    .skip))
  (.seq (.drw false [⟨some 28, (Op.load 40 (Operand.tmp 4)), none⟩,
    ⟨some 29, (Op.fieldAddr 40 (Operand.tmp 4) 0), none⟩,
    ⟨some 30, (Op.load 22 (Operand.tmp 29)), none⟩,
    ⟨some 31, (Op.move (Operand.tmp 1)), none⟩,
    ⟨some 32, (Op.move (Operand.tmp 2)), none⟩,
    ⟨some 33, (Op.move (Operand.tmp 3)), none⟩,
    ⟨some 34, (Op.call { callee := (Callee.value (Operand.func 22)), args := #[(Operand.tmp 30), (Operand.tmp 31), (Operand.tmp 32), (Operand.tmp 33)], argTypes := #[22, 22, 22, 3] }), none⟩,
    ⟨some 35, (Op.fieldAddr 40 (Operand.tmp 4) 0), none⟩,
    ⟨some 36, (Op.load 22 (Operand.tmp 35)), none⟩,
    ⟨some 37, (Op.move (Operand.tmp 1)), none⟩,
    ⟨some 38, (Op.move (Operand.tmp 2)), none⟩,
    ⟨some 39, (Op.move (Operand.tmp 3)), none⟩,
    ⟨some 40, (Op.call { callee := (Callee.value (Operand.func 21)), args := #[(Operand.tmp 36), (Operand.tmp 37), (Operand.tmp 38), (Operand.tmp 39)], argTypes := #[22, 22, 22, 3] }), none⟩,
    ⟨some 41, (Op.call { callee := (Callee.value (Operand.func 134)), args := #[(Operand.tmp 28), (Operand.tmp 34), (Operand.tmp 40)], argTypes := #[40, 22, 22] }), none⟩,
    ⟨some 42, (Op.extract (Operand.tmp 41) 0), none⟩,
    ⟨some 43, (Op.extract (Operand.tmp 41) 1), none⟩,
    ⟨none, (Op.store 40 (Operand.tmp 8) (Operand.tmp 42)), none⟩,
    ⟨some 9, (Op.assign (Operand.tmp 43)), none⟩] [(0, 7), (0, 13), (8, 6)])
  .ret))))
noncomputable def b81 : Code := Try.f81.body.getD .skip
theorem hb81 : Try.f81.body = some b81 := by kernel_rfl
theorem sh81 : shortC A81 b81 = c81 := by kernel_rfl
def rs81 : List ResultVar := [(ResultVar.cell 8 40), (ResultVar.tmp 9)]
theorem hr81 : Try.f81.results.toList = rs81 := by kernel_rfl
/-! parquetry/split.All (3 parameters; calls 81 parquetry/split.Part, 87 parquetry/split.may, 88 parquetry/mesh.Devices) -/
def A37 : Ann := { live := fun i => if i = 6 then [1, 2, 3, 9, 21, 22] else [], drop := fun i => false }
noncomputable def c37 : Cc :=
  (.seq (.reg false [⟨some 3, (Op.box 40 (Operand.tmp 0)), none⟩,
    ⟨some 6, (Op.assign (Operand.const (Value.slice none 0 0))), none⟩,
    ⟨some 7, (Op.assign (Operand.const (Value.int IntKind.i64 0))), none⟩])
  (.seq (.seq (.reg false [⟨some 13, (Op.load 40 (Operand.tmp 3)), none⟩,
    ⟨some 14, (Op.move (Operand.tmp 1)), none⟩,
    ⟨some 15, (Op.move (Operand.tmp 2)), none⟩,
    ⟨some 16, (Op.call { callee := (Callee.value (Operand.func 87)), args := #[(Operand.tmp 13), (Operand.tmp 14), (Operand.tmp 15)], argTypes := #[40, 22, 22] }), none⟩,
    ⟨some 8, (Op.assign (Operand.tmp 16)), none⟩])
  (.seq (.reg false [⟨some 17, (Op.move (Operand.tmp 8)), none⟩,
    ⟨some 18, (Op.binOp BinOp.neq 46 (Operand.tmp 17) (Operand.const (Value.int IntKind.i64 0)) 46), none⟩])
  (.cond (Operand.tmp 18)
    (.seq (.reg false [⟨some 19, (Op.move (Operand.tmp 8)), none⟩,
      ⟨some 6, (Op.assign (Operand.const (Value.slice none 0 0))), none⟩,
      ⟨some 7, (Op.assign (Operand.tmp 19)), none⟩])
    .ret)
    .skip)))
  (.seq (.reg false [⟨some 9, (Op.assign (Operand.const (Value.slice none 0 0))), none⟩])
  (.seq (.seq (.reg false [⟨some 20, (Op.move (Operand.tmp 1)), none⟩,
    ⟨some 21, (Op.call { callee := (Callee.value (Operand.func 88)), args := #[(Operand.tmp 20)], argTypes := #[22] }), none⟩,
    ⟨some 22, (Op.move (Operand.const (Value.int IntKind.i64 0))), none⟩])
  (.block 0 (.loop [1, 2, 3, 9, 21, 22] false
    (.seq (.reg false [⟨some 23, (Op.binOp BinOp.lss 3 (Operand.tmp 22) (Operand.tmp 21) 3), none⟩])
    (.seq (.cond (Operand.tmp 23)
      .skip
      (.exit 0))
    (.seq (.block 1 (.seq (.reg false [⟨some 24, (Op.move (Operand.tmp 22)), none⟩,
      ⟨some 10, (Op.assign (Operand.tmp 24)), none⟩])
    (.seq (.reg false [⟨some 26, (Op.load 40 (Operand.tmp 3)), none⟩,
      ⟨some 27, (Op.move (Operand.tmp 1)), none⟩,
      ⟨some 28, (Op.move (Operand.tmp 2)), none⟩,
      ⟨some 29, (Op.move (Operand.tmp 10)), none⟩,
      ⟨some 30, (Op.call { callee := (Callee.value (Operand.func 81)), args := #[(Operand.tmp 26), (Operand.tmp 27), (Operand.tmp 28), (Operand.tmp 29)], argTypes := #[40, 22, 22, 3] }), none⟩,
      ⟨some 25, (Op.move (Operand.tmp 30)), none⟩,
      ⟨some 31, (Op.extract (Operand.tmp 25) 0), none⟩,
      ⟨some 32, (Op.extract (Operand.tmp 25) 1), none⟩,
      ⟨some 11, (Op.alloc 40), none⟩,
      ⟨none, (Op.store 40 (Operand.tmp 11) (Operand.tmp 31)), none⟩,
      ⟨some 12, (Op.assign (Operand.tmp 32)), none⟩])
    (.seq (.seq (.reg false [⟨some 33, (Op.move (Operand.tmp 12)), none⟩,
      ⟨some 34, (Op.binOp BinOp.neq 46 (Operand.tmp 33) (Operand.const (Value.int IntKind.i64 0)) 46), none⟩])
    (.cond (Operand.tmp 34)
      (.seq (.reg false [⟨some 35, (Op.move (Operand.tmp 12)), none⟩,
        ⟨some 6, (Op.assign (Operand.const (Value.slice none 0 0))), none⟩,
        ⟨some 7, (Op.assign (Operand.tmp 35)), none⟩])
      .ret)
      .skip))
    (.reg false [⟨some 36, (Op.move (Operand.tmp 9)), none⟩,
      ⟨some 37, (Op.load 40 (Operand.tmp 11)), none⟩,
      ⟨some 38, (Op.buildSlice 45 1 #[(0, (Operand.tmp 37))]), none⟩,
      ⟨some 39, (Op.call { callee := (Callee.builtin Builtin.append), args := #[(Operand.tmp 36), (Operand.tmp 38)], argTypes := #[45, 45] }), none⟩,
      ⟨some 9, (Op.assign (Operand.tmp 39)), none⟩])))))
    (.reg false [⟨some 40, (Op.binOp BinOp.add 3 (Operand.tmp 22) (Operand.const (Value.int IntKind.i64 1)) 3), none⟩,
      ⟨some 22, (Op.move (Operand.tmp 40)), none⟩])))))))
  (.seq (.reg false [⟨some 41, (Op.move (Operand.tmp 9)), none⟩,
    ⟨some 6, (Op.assign (Operand.tmp 41)), none⟩,
    ⟨some 7, (Op.assign (Operand.const (Value.int IntKind.i64 0))), none⟩])
  .ret)))))
noncomputable def b37 : Code := Try.f37.body.getD .skip
theorem hb37 : Try.f37.body = some b37 := by kernel_rfl
theorem sh37 : shortC A37 b37 = c37 := by kernel_rfl
def rs37 : List ResultVar := [(ResultVar.tmp 6), (ResultVar.tmp 7)]
theorem hr37 : Try.f37.results.toList = rs37 := by kernel_rfl
/- Functions in short form. -/
/-! parquetry/tensor.place (2 parameters; calls 91 parquetry/tensor.Right, 96 parquetry/shape.Index) -/
def A182 : Ann := { drop := fun i => false }
noncomputable def c182 : Cc :=
  (.seq (.reg false [⟨some 2, (Op.box 40 (Operand.tmp 0)), none⟩,
    ⟨some 4, (Op.assign (Operand.const (Value.int IntKind.i64 0))), none⟩])
  (.seq (.seq (.reg false [⟨some 5, (Op.load 40 (Operand.tmp 2)), none⟩,
    ⟨some 6, (Op.call { callee := (Callee.value (Operand.func 91)), args := #[(Operand.tmp 5)], argTypes := #[40] }), none⟩,
    ⟨some 7, (Op.unOp UnOp.not 4 (Operand.tmp 6)), none⟩])
  (.cond (Operand.tmp 7)
    (.seq (.reg false [⟨some 4, (Op.assign (Operand.const (Value.int IntKind.i64 (-1)))), none⟩])
    .ret)
    .skip))
  (.seq (.reg false [⟨some 8, (Op.fieldAddr 40 (Operand.tmp 2) 0), none⟩,
    ⟨some 9, (Op.load 22 (Operand.tmp 8)), none⟩,
    ⟨some 10, (Op.move (Operand.tmp 1)), none⟩,
    ⟨some 11, (Op.call { callee := (Callee.value (Operand.func 96)), args := #[(Operand.tmp 9), (Operand.tmp 10)], argTypes := #[22, 22] }), none⟩,
    ⟨some 4, (Op.assign (Operand.tmp 11)), none⟩])
  .ret)))
noncomputable def b182 : Code := Try.f182.body.getD .skip
theorem hb182 : Try.f182.body = some b182 := by kernel_rfl
theorem sh182 : shortC A182 b182 = c182 := by kernel_rfl
def rs182 : List ResultVar := [(ResultVar.tmp 4)]
theorem hr182 : Try.f182.results.toList = rs182 := by kernel_rfl
/-! parquetry/tensor.Get (2 parameters; calls 182 parquetry/tensor.place) -/
def A174 : Ann := { drop := fun i => false }
noncomputable def c174 : Cc :=
  (.seq (.reg false [⟨some 2, (Op.box 40 (Operand.tmp 0)), none⟩,
    ⟨some 4, (Op.assign (Operand.const (Value.int IntKind.i64 0))), none⟩,
    ⟨some 5, (Op.assign (Operand.const (Value.bool false))), none⟩])
  (.seq (.reg false [⟨some 7, (Op.load 40 (Operand.tmp 2)), none⟩,
    ⟨some 8, (Op.move (Operand.tmp 1)), none⟩,
    ⟨some 9, (Op.call { callee := (Callee.value (Operand.func 182)), args := #[(Operand.tmp 7), (Operand.tmp 8)], argTypes := #[40, 22] }), none⟩,
    ⟨some 6, (Op.assign (Operand.tmp 9)), none⟩])
  (.seq (.seq (.reg false [⟨some 10, (Op.move (Operand.tmp 6)), none⟩,
    ⟨some 11, (Op.binOp BinOp.lss 3 (Operand.tmp 10) (Operand.const (Value.int IntKind.i64 0)) 3), none⟩])
  (.cond (Operand.tmp 11)
    (.seq (.reg false [⟨some 4, (Op.assign (Operand.const (Value.int IntKind.i64 0))), none⟩,
      ⟨some 5, (Op.assign (Operand.const (Value.bool false))), none⟩])
    .ret)
    .skip))
  (.seq (.reg false [⟨some 12, (Op.fieldAddr 40 (Operand.tmp 2) 1), none⟩,
    ⟨some 13, (Op.load 38 (Operand.tmp 12)), none⟩,
    ⟨some 14, (Op.move (Operand.tmp 6)), none⟩,
    ⟨some 15, (Op.indexAddr 38 (Operand.tmp 13) (Operand.tmp 14)), none⟩,
    ⟨some 16, (Op.load 2 (Operand.tmp 15)), none⟩,
    ⟨some 4, (Op.assign (Operand.tmp 16)), none⟩,
    ⟨some 5, (Op.assign (Operand.const (Value.bool true))), none⟩])
  .ret))))
noncomputable def b174 : Code := Try.f174.body.getD .skip
theorem hb174 : Try.f174.body = some b174 := by kernel_rfl
theorem sh174 : shortC A174 b174 = c174 := by kernel_rfl
def rs174 : List ResultVar := [(ResultVar.tmp 4), (ResultVar.tmp 5)]
theorem hr174 : Try.f174.results.toList = rs174 := by kernel_rfl
/-! parquetry/axes.at (2 parameters; calls 174 parquetry/tensor.Get) -/
def A162 : Ann := { drop := fun i => false }
noncomputable def c162 : Cc :=
  (.seq (.reg false [⟨some 2, (Op.box 40 (Operand.tmp 0)), none⟩,
    ⟨some 4, (Op.assign (Operand.const (Value.int IntKind.i64 0))), none⟩])
  (.seq (.reg false [⟨some 8, (Op.load 40 (Operand.tmp 2)), none⟩,
    ⟨some 9, (Op.move (Operand.tmp 1)), none⟩,
    ⟨some 10, (Op.call { callee := (Callee.value (Operand.func 174)), args := #[(Operand.tmp 8), (Operand.tmp 9)], argTypes := #[40, 22] }), none⟩,
    ⟨some 7, (Op.move (Operand.tmp 10)), none⟩,
    ⟨some 11, (Op.extract (Operand.tmp 7) 0), none⟩,
    ⟨some 12, (Op.extract (Operand.tmp 7) 1), none⟩,
    ⟨some 5, (Op.assign (Operand.tmp 11)), none⟩,
    ⟨some 6, (Op.assign (Operand.tmp 12)), none⟩])
  (.seq (.reg false [⟨some 13, (Op.move (Operand.tmp 5)), none⟩,
    ⟨some 4, (Op.assign (Operand.tmp 13)), none⟩])
  .ret)))
noncomputable def b162 : Code := Try.f162.body.getD .skip
theorem hb162 : Try.f162.body = some b162 := by kernel_rfl
theorem sh162 : shortC A162 b162 = c162 := by kernel_rfl
def rs162 : List ResultVar := [(ResultVar.tmp 4)]
theorem hr162 : Try.f162.results.toList = rs162 := by kernel_rfl
/- Walks: a tensor's number at a place. -/
theorem pow32 (k : Nat) (h : k ≤ 4) : ((32 ^ k : Nat) : Int) ≤ 1048576 := by
  have : 32 ^ k ≤ 32 ^ 4 := Nat.pow_le_pow_right (by decide) h
  have h4 : (32 : Nat) ^ 4 = 1048576 := by decide
  omega
theorem ofGo_lt : ∀ (s l : List Int) (d P : Int) (k : Nat), k + s.length ≤ 4 → (∀ j : Nat, j < s.length → 0 ≤ nth s j ∧ nth s j ≤ 32) → 0 ≤ d → d < P → P ≤ ((32 ^ k : Nat) : Int) → (0 ≤ ofGo d s l ∧ ofGo d s l < prodW P s) ∨ ofGo d s l = -1 ∨ s.length ≠ l.length := by
  intro s
  induction s with
  | nil =>
    intro l d P k _ _ h0 h1 _
    cases l with
    | nil => exact .inl ⟨h0, h1⟩
    | cons => exact .inr (.inr (by simp))
  | cons x s ih =>
    intro l d P k hk hs h0 h1 hP
    cases l with
    | nil => exact .inr (.inr (by simp))
    | cons y l =>
      simp only [ofGo, prodW]
      by_cases hy : y < 0 ∨ x ≤ y
      · rw [if_pos hy]; exact .inr (.inl rfl)
      · rw [if_neg hy]
        have hx := hs 0 (by simp)
        have hx' : 0 ≤ x ∧ x ≤ 32 := by simpa [nth] using hx
        have hk1 := pow32 k (by simp at hk; omega)
        have hk2 := pow32 (k + 1) (by simp at hk; omega)
        have hpk : ((32 ^ (k + 1) : Nat) : Int) = ((32 ^ k : Nat) : Int) * 32 := by rw [Nat.pow_succ]; simp
        have hPx := mul_rng (a := P) (b := x) (A := ((32 ^ k : Nat) : Int)) (B := 32) (by omega) hx'
        have hdx := mul_rng (a := d) (b := x) (A := P - 1) (B := x) (by omega) (by omega)
        have hs1 : (P - 1) * x = P * x - x := by rw [Int.sub_mul, Int.one_mul]
        rw [w_id (x := d * x) (by omega), w_id (x := d * x + y) (by omega), w_id (x := P * x) (by omega)]
        have := ih l (d * x + y) (P * x) (k + 1) (by simp at hk; omega) (fun j hj => by simpa [nth] using hs (j + 1) (by simpa using hj)) (by omega) (by omega) (by omega)
        rcases this with h | h | h
        · exact .inl h
        · exact .inr (.inl h)
        · exact .inr (.inr (by simpa using h))
theorem idxL_lt (s l : List Int) : idxL s l = -1 ∨ (0 ≤ idxL s l ∧ idxL s l < sizeOf s) := by
  unfold idxL
  by_cases h : shapeOK s = false ∨ l.length ≠ s.length
  · rw [if_pos h]; exact .inl rfl
  · rw [if_neg h]
    have hs : shapeOK s = true := by
      cases hc : shapeOK s
      · exact absurd (.inl hc) h
      · rfl
    have hl : l.length = s.length := Decidable.byContradiction fun e => h (.inr e)
    obtain ⟨h4, hr⟩ := shapeOK_rng hs
    have hz : sizeOf s = prodW 1 s := by simp [sizeOf, hs]
    rcases ofGo_lt s l 0 1 0 (by omega) hr (by omega) (by omega) (by simp) with h1 | h1 | h1
    · rw [hz]; exact .inr h1
    · exact .inl h1
    · exact absurd hl.symm h1
/-- The number of a place of a tensor; -1: it is none. -/
def plT (p : List Int × List Int) (l : List Int) : Int := if tOK p = true then idxL p.1 l else -1
def F182 (args : List AV) (H : Hp) : Option AV := match args with
  | [t, a] => (tens H t).bind fun p => (ints H a).map fun l => .int .i64 (plT p l)
  | _ => none
theorem snd182 : Sound Try.prog 182 (FSem.pure F182).run := by
  refine sound_of hT (EOK_cons snd91 (EOK_cons snd96 (EOK_nil _))) mixed A182 Try.func182 hb182 (by kernel_rfl) (by kernel_rfl) (by kernel_rfl) (by kernel_rfl) sh182 2 (by kernel_rfl) rs182 hr182 ?_
  intro args H r H' hw h
  obtain ⟨rfl, hv⟩ := pureAt h
  clear h
  unfold F182 at hv
  split at hv
  · rename_i t a
    obtain ⟨⟨s, d⟩, ht, hv⟩ := Option.bind_eq_some_iff.1 hv
    obtain ⟨l, hl, hv⟩ := Option.map_eq_some_iff.1 hv
    cases hv
    obtain ⟨x, y, rfl, hs, hd⟩ := tens_some ht
    have hbx := abox_agg H' (ints_one' hs) (ints_one' hd)
    have hat := new_at H' [x, y]
    have l1 := ld22 hat 0
    have l3 := ld40 hat
    have hP : Pre H' (H'.new [x, y]) := Pre.new (Pre.refl _) _
    have hs1 := ints_ext hP hs
    have ht1 := tens_ext hP ht
    have hl1 := ints_ext hP hl
    simp only [List.getElem?_cons_zero] at l1
    refine ⟨rfl, go ?_⟩
    unfold c182
    simp only [argSl]
    generalize H'.new [x, y] = H1 at *
    generalize H'.bs.length = b at l1 l3 hbx
    generalize H'.c = ver at l1 l3 hbx
    clear hs hd hat ht hl
    replace hP := Hide.mk hP
    rcases h1 : tOK (s, d) with _ | _
    · repeat' (first | apply goSeq | apply goReg | apply goSeqN | apply goSeqR | apply goSkip | apply goRet | apply goNil | apply goBlock | apply goExit | apply goBlkN | apply goBlkR | apply goBlkE | apply goSeqE | apply goLoopR | apply goLoopE | refine xOp ?_ | refine xOp0 ?_ | refine xYes ?_ | refine xNo ?_ | refine xNoU ?_ | refine xIfT ?_ | refine xIfF ?_ | refine xIf ?_ ?_ | refine xSplit ?_ ?_ | refine xIfQ ?_ ?_ | refine xSplitQ ?_ ?_ | refine xBlkX ?_ | intro _)
      refine goEnd hw hP.out (by simp) (by simp [rs182]; exact rfl) rfl ?_
      simp [plT, h1]
    · repeat' (first | apply goSeq | apply goReg | apply goSeqN | apply goSeqR | apply goSkip | apply goRet | apply goNil | apply goBlock | apply goExit | apply goBlkN | apply goBlkR | apply goBlkE | apply goSeqE | apply goLoopR | apply goLoopE | refine xOp ?_ | refine xOp0 ?_ | refine xYes ?_ | refine xNo ?_ | refine xNoU ?_ | refine xIfT ?_ | refine xIfF ?_ | refine xIf ?_ ?_ | refine xSplit ?_ ?_ | refine xIfQ ?_ ?_ | refine xSplitQ ?_ ?_ | refine xBlkX ?_ | intro _)
      refine goEnd hw hP.out (by simp) (by simp [rs182]; exact rfl) rfl ?_
      simp [plT, h1]
  · cases hv
@[simp] theorem F182_at (t a : AV) (H : Hp) : F182 [t, a] H = (tens H t).bind fun p => (ints H a).map fun l => .int .i64 (plT p l) := rfl
theorem plT_lt (p : List Int × List Int) (l : List Int) : plT p l = -1 ∨ (0 ≤ plT p l ∧ plT p l < p.2.length) := by
  unfold plT
  split
  · rename_i h
    have hz : (p.2.length : Int) = sizeOf p.1 := by simp [tOK] at h; exact h.2
    rcases idxL_lt p.1 l with h1 | h1
    · exact .inl h1
    · rw [hz]; exact .inr h1
  · exact .inl rfl
/-- The number at a place; 0: there is none. -/
def atT (p : List Int × List Int) (l : List Int) : Int := if plT p l < 0 then 0 else nth p.2 (plT p l)
def F174 (args : List AV) (H : Hp) : Option AV := match args with
  | [t, a] => (tens H t).bind fun p => (ints H a).map fun l => .tup [.int .i64 (atT p l), .bool (!decide (plT p l < 0))]
  | _ => none
theorem snd174 : Sound Try.prog 174 (FSem.pure F174).run := by
  refine sound_of hT (EOK_cons snd182 (EOK_nil _)) mixed A174 Try.func174 hb174 (by kernel_rfl) (by kernel_rfl) (by kernel_rfl) (by kernel_rfl) sh174 2 (by kernel_rfl) rs174 hr174 ?_
  intro args H r H' hw h
  obtain ⟨rfl, hv⟩ := pureAt h
  clear h
  unfold F174 at hv
  split at hv
  · rename_i t a
    obtain ⟨⟨s, d⟩, ht, hv⟩ := Option.bind_eq_some_iff.1 hv
    obtain ⟨l, hl, hv⟩ := Option.map_eq_some_iff.1 hv
    cases hv
    obtain ⟨x, y, rfl, hs, hd⟩ := tens_some ht
    have hbx := abox_agg H' (ints_one' hs) (ints_one' hd)
    have hat := new_at H' [x, y]
    have l1 := ld38 hat 1
    have l3 := ld40 hat
    have hP : Pre H' (H'.new [x, y]) := Pre.new (Pre.refl _) _
    have hd1 : ints (H'.new [x, y]) y = some d := ints_ext hP hd
    have ht1 := tens_ext hP ht
    have hl1 := ints_ext hP hl
    have hix := aidxS_ints hd1 .i64
    have hld := aload_nth T2 rfl hd1
    simp only [← aidx38] at hix
    simp only [List.getElem?_cons_zero, List.getElem?_cons_succ] at l1
    have hlt := plT_lt (s, d) l
    refine ⟨rfl, go ?_⟩
    unfold c174
    simp only [argSl]
    generalize H'.new [x, y] = H1 at *
    generalize H'.bs.length = b at l1 l3 hbx
    generalize H'.c = ver at l1 l3 hbx
    clear hs hd hat ht hl hd1
    have hat' : atT (s, d) l = if plT (s, d) l < 0 then 0 else nth d (plT (s, d) l) := rfl
    rw [hat']
    clear hat'
    replace hP := Hide.mk hP
    by_cases h0 : plT (s, d) l < 0
    · clear hlt
      repeat' (first | apply goSeq | apply goReg | apply goSeqN | apply goSeqR | apply goSkip | apply goRet | apply goNil | apply goBlock | apply goExit | apply goBlkN | apply goBlkR | apply goBlkE | apply goSeqE | apply goLoopR | apply goLoopE | refine xOp ?_ | refine xOp0 ?_ | refine xYes ?_ | refine xNo ?_ | refine xNoU ?_ | refine xIfT ?_ | refine xIfF ?_ | refine xIf ?_ ?_ | refine xSplit ?_ ?_ | refine xIfQ ?_ ?_ | refine xSplitQ ?_ ?_ | refine xBlkX ?_ | intro _)
      refine goEnd hw hP.out (by simp) (by simp [rs174]; exact rfl) rfl ?_
      simp [h0]
    · have hi0 : 0 ≤ plT (s, d) l := by omega
      have hi1 : plT (s, d) l < d.length := by
        rcases hlt with h | h
        · omega
        · exact h.2
      clear hlt
      repeat' (first | apply goSeq | apply goReg | apply goSeqN | apply goSeqR | apply goSkip | apply goRet | apply goNil | apply goBlock | apply goExit | apply goBlkN | apply goBlkR | apply goBlkE | apply goSeqE | apply goLoopR | apply goLoopE | refine xOp ?_ | refine xOp0 ?_ | refine xYes ?_ | refine xNo ?_ | refine xNoU ?_ | refine xIfT ?_ | refine xIfF ?_ | refine xIf ?_ ?_ | refine xSplit ?_ ?_ | refine xIfQ ?_ ?_ | refine xSplitQ ?_ ?_ | refine xBlkX ?_ | intro _)
      refine goEnd hw hP.out (by simp) (by simp [rs174]; exact rfl) rfl ?_
      simp [h0]
  · cases hv
@[simp] theorem F174_at (t a : AV) (H : Hp) : F174 [t, a] H = (tens H t).bind fun p => (ints H a).map fun l => .tup [.int .i64 (atT p l), .bool (!decide (plT p l < 0))] := rfl
def F162 (args : List AV) (H : Hp) : Option AV := match args with
  | [t, a] => (tens H t).bind fun p => (ints H a).map fun l => .int .i64 (atT p l)
  | _ => none
theorem snd162 : Sound Try.prog 162 (FSem.pure F162).run := by
  refine sound_of hT (EOK_cons snd174 (EOK_nil _)) mixed A162 Try.func162 hb162 (by kernel_rfl) (by kernel_rfl) (by kernel_rfl) (by kernel_rfl) sh162 2 (by kernel_rfl) rs162 hr162 ?_
  intro args H r H' hw h
  obtain ⟨rfl, hv⟩ := pureAt h
  clear h
  unfold F162 at hv
  split at hv
  · rename_i t a
    obtain ⟨⟨s, d⟩, ht, hv⟩ := Option.bind_eq_some_iff.1 hv
    obtain ⟨l, hl, hv⟩ := Option.map_eq_some_iff.1 hv
    cases hv
    obtain ⟨x, y, rfl, hs, hd⟩ := tens_some ht
    have hbx := abox_agg H' (ints_one' hs) (ints_one' hd)
    have hat := new_at H' [x, y]
    have l3 := ld40 hat
    have hP : Pre H' (H'.new [x, y]) := Pre.new (Pre.refl _) _
    have ht1 := tens_ext hP ht
    have hl1 := ints_ext hP hl
    refine ⟨rfl, go ?_⟩
    unfold c162
    simp only [argSl]
    generalize H'.new [x, y] = H1 at *
    generalize H'.bs.length = b at l3 hbx
    generalize H'.c = ver at l3 hbx
    clear hs hd hat ht hl
    replace hP := Hide.mk hP
    repeat' (first | apply goSeq | apply goReg | apply goSeqN | apply goSeqR | apply goSkip | apply goRet | apply goNil | apply goBlock | apply goExit | apply goBlkN | apply goBlkR | apply goBlkE | apply goSeqE | apply goLoopR | apply goLoopE | refine xOp ?_ | refine xOp0 ?_ | refine xYes ?_ | refine xNo ?_ | refine xNoU ?_ | refine xIfT ?_ | refine xIfF ?_ | refine xIf ?_ ?_ | refine xSplit ?_ ?_ | refine xIfQ ?_ ?_ | refine xSplitQ ?_ ?_ | refine xBlkX ?_ | intro _)
    exact goEnd hw hP.out (by simp) (by simp [rs162]; exact rfl) rfl rfl
  · cases hv
@[simp] theorem F162_at (t a : AV) (H : Hp) : F162 [t, a] H = (tens H t).bind fun p => (ints H a).map fun l => .int .i64 (atT p l) := rfl
/- Walks: what is called for each place of a tensor. -/
theorem aload_ext {t : Nat} {a v : AV} {H G : Hp} (hp : Pre H G) (h : aload T t a H = some v) : aload T t a G = some v := by
  unfold aload at h ⊢
  split at h
  · rename_i i b ver off hi _
    split at h
    · rename_i k hk
      simp only [hp.at hk]
      exact h
    · cases h
  · cases h
theorem aload_put {t b ver o b' : Nat} {k : Blk} {H : Hp} (h : b ≠ b') : aload T t (.ptr b ver o) (H.put b' k) = aload T t (.ptr b ver o) H := by
  unfold aload
  cases T t with
  | none => rfl
  | some i => simp only [at_put h]
theorem aload_ne {t b ver o b' ver' : Nat} {v : AV} {k : Blk} {H G : Hp} (hw : Wf H) (hp : Pre H G) (hv : H.c ≤ ver') (hk : G.at b' ver' = some k) (h : aload T t (.ptr b ver o) H = some v) : b ≠ b' := by
  unfold aload at h
  split at h
  · rename_i i b1 ver1 off1 hi he
    cases he
    split at h
    · rename_i k1 hk1
      exact Hp.at_ne (hp.at hk1) hk (by have := at_lt hw hk1; omega)
    · cases h
  · cases h
theorem off_ne {b' ver' : Nat} {v : AV} {l : List Int} {k : Blk} {H G : Hp} (hw : Wf H) (hp : Pre H G) (hv : H.c ≤ ver') (hk : G.at b' ver' = some k) (h : ints H v = some l) : off v b' = true := by
  unfold ints at h
  split at h
  · rfl
  · rfl
  · split at h
    · split at h
      · rename_i k1 hk1
        have := Hp.at_ne (hp.at hk1) hk (by have := at_lt hw hk1; omega)
        simpa [off] using this
      · cases h
    · cases h
  · cases h
/-- Places moved. -/
def addL : List Int → List Int → List Int
  | a :: l, b :: m => w (a + b) :: addL l m
  | l, _ => l
theorem addL_len : ∀ (l m : List Int), (addL l m).length = l.length := by
  intro l
  induction l with
  | nil => intro m; cases m <;> rfl
  | cons a l ih => intro m; cases m with
    | nil => rfl
    | cons b m => simp [addL, ih]
def F139 (args : List AV) (H : Hp) : Option AV := match args with
  | [_, .ptr b ver 0] => (match aload T 2 (.ptr b ver 0) H with | some (.int .i64 n) => some (.int .i64 n) | _ => none)
  | _ => none
theorem snd139 : Sound Try.prog 139 (FSem.pure F139).run := by
  refine sound_of hT (EOK_nil _) mixed A139 Try.func139 hb139 (by kernel_rfl) (by kernel_rfl) (by kernel_rfl) (by kernel_rfl) sh139 2 (by kernel_rfl) rs139 hr139 ?_
  intro args H r H' hw h
  obtain ⟨rfl, hv⟩ := pureAt h
  clear h
  unfold F139 at hv
  split at hv
  · split at hv
    · cases hv
      rename_i hl
      refine ⟨rfl, go ?_⟩
      unfold c139
      simp only [argSl]
      repeat' (first | apply goSeq | apply goReg | apply goSeqN | apply goSeqR | apply goSkip | apply goRet | apply goNil | apply goBlock | apply goExit | apply goBlkN | apply goBlkR | apply goBlkE | apply goSeqE | apply goLoopR | apply goLoopE | refine xOp ?_ | refine xOp0 ?_ | refine xYes ?_ | refine xNo ?_ | refine xNoU ?_ | refine xIfT ?_ | refine xIfF ?_ | refine xIf ?_ ?_ | refine xSplit ?_ ?_ | refine xIfQ ?_ ?_ | refine xSplitQ ?_ ?_ | refine xBlkX ?_ | intro _)
      exact goEnd hw (Pre.refl _) (by simp) (by simp [rs139]; exact rfl) rfl rfl
    · cases hv
  · cases hv
/-- The place is an own list, the rest lies elsewhere. -/
structure P161 (H : Hp) (pb pv n b1 v1 b2 v2 : Nat) (at' fr : List Int) (p : List Int × List Int) (fv x y : AV) : Prop where
  blk : H.at pb pv = some ⟨pv, at'.map (.int .i64), true, true⟩
  len : at'.length = n
  lb : n ≤ 1099511627776
  fl : aload T 22 (.ptr b1 v1 0) H = some fv
  fb : b1 ≠ pb
  fi : ints H fv = some fr
  fo : off fv pb = true
  tl : aload T 40 (.ptr b2 v2 0) H = some (.agg [x, y])
  tb : b2 ≠ pb
  tx : ints H x = some p.1
  txo : off x pb = true
  ty : ints H y = some p.2
  tyo : off y pb = true
  le : fr.length ≤ n
theorem map_int_inj {l m : List Int} (h : l.map (AV.int .i64) = m.map (.int .i64)) : l = m := by
  have := congrArg toInts h
  rw [toInts_map, toInts_map] at this
  exact Option.some.inj this
theorem P161.uniq {H : Hp} {pb pv n b1 v1 b2 v2 : Nat} {at1 fr : List Int} {p : List Int × List Int} {fv x y : AV} {at2 fr2 : List Int} {p2 : List Int × List Int} {fv2 x2 y2 : AV} (h : P161 H pb pv n b1 v1 b2 v2 at1 fr p fv x y) (k : P161 H pb pv n b1 v1 b2 v2 at2 fr2 p2 fv2 x2 y2) : at1 = at2 ∧ fr = fr2 ∧ p = p2 := by
  have e1 := h.blk
  rw [k.blk] at e1
  have e2 := h.fl
  rw [k.fl] at e2
  cases e2
  have e3 := h.fi
  rw [k.fi] at e3
  have e4 := h.tl
  rw [k.tl] at e4
  cases e4
  have e5 := h.tx
  rw [k.tx] at e5
  have e6 := h.ty
  rw [k.ty] at e6
  simp only [Option.some.injEq, Blk.mk.injEq, true_and, and_true] at e1
  refine ⟨(map_int_inj e1).symm, (Option.some.inj e3).symm, ?_⟩
  have a1 := Option.some.inj e5
  have a2 := Option.some.inj e6
  exact (Prod.ext a1 a2).symm
def put161 (H : Hp) (pb pv : Nat) (l : List Int) : Hp := H.put pb ⟨pv, l.map (.int .i64), true, true⟩
open Classical in
noncomputable def F161 (args : List AV) (H : Hp) : Option (AV × Hp) := match args with
  | [.sl pb pv 0 n 1 true, .ptr b1 v1 0, .ptr b2 v2 0] =>
    if h : ∃ q : (List Int × List Int × (List Int × List Int)) × (AV × AV × AV), P161 H pb pv n b1 v1 b2 v2 q.1.1 q.1.2.1 q.1.2.2 q.2.1 q.2.2.1 q.2.2.2 then
      some (.int .i64 (atT h.choose.1.2.2 (addL h.choose.1.1 h.choose.1.2.1)), put161 H pb pv (addL h.choose.1.1 h.choose.1.2.1)) else none
  | _ => none
theorem F161_at {H : Hp} {pb pv n b1 v1 b2 v2 : Nat} {at1 fr : List Int} {p : List Int × List Int} {fv x y : AV} (h : P161 H pb pv n b1 v1 b2 v2 at1 fr p fv x y) :
    F161 [.sl pb pv 0 n 1 true, .ptr b1 v1 0, .ptr b2 v2 0] H = some (.int .i64 (atT p (addL at1 fr)), put161 H pb pv (addL at1 fr)) := by
  have hex : ∃ q : (List Int × List Int × (List Int × List Int)) × (AV × AV × AV), P161 H pb pv n b1 v1 b2 v2 q.1.1 q.1.2.1 q.1.2.2 q.2.1 q.2.2.1 q.2.2.2 := ⟨((at1, fr, p), (fv, x, y)), h⟩
  have := P161.uniq hex.choose_spec h
  simp only [F161]
  rw [dif_pos hex, this.1, this.2.1, this.2.2]
theorem addL_take : ∀ (l m : List Int) (i : Nat), i < m.length → m.length ≤ l.length → (addL (l.take i) (m.take i) ++ l.drop i).set i (w (nth l i + nth m i)) = addL (l.take (i + 1)) (m.take (i + 1)) ++ l.drop (i + 1) := by
  intro l
  induction l with
  | nil => intro m i h1 h2; simp at h2; subst h2; simp at h1
  | cons a l ih =>
    intro m i h1 h2
    cases m with
    | nil => simp at h1
    | cons b m =>
      cases i with
      | zero => simp [addL, nth]
      | succ i =>
        have := ih m i (by simpa using h1) (by simpa using h2)
        simpa [addL, nth] using this
theorem nth_addL (l m : List Int) (i : Nat) (hi : i < l.length) : nth (addL (l.take i) (m.take i) ++ l.drop i) i = nth l i := by
  have : (addL (l.take i) (m.take i)).length = i := by rw [addL_len]; simp; omega
  simp [nth, List.getD_eq_getElem?_getD, List.getElem?_append_right, this]
set_option maxHeartbeats 1000000 in
theorem snd161 : Sound Try.prog 161 (FSem.eff F161).run := by
  refine sound_of hT (EOK_cons snd162 (EOK_nil _)) mixed A161 Try.func161 hb161 (by kernel_rfl) (by kernel_rfl) (by kernel_rfl) (by kernel_rfl) sh161 3 (by kernel_rfl) rs161 hr161 ?_
  intro args H r H' hw h
  have hv : F161 args H = some (r, H') := h
  clear h
  have hargs : ∃ pb pv n b1 v1 b2 v2 at1 fr p fv x y, args = [.sl pb pv 0 n 1 true, .ptr b1 v1 0, .ptr b2 v2 0] ∧ P161 H pb pv n b1 v1 b2 v2 at1 fr p fv x y := by
    unfold F161 at hv
    split at hv
    · split at hv
      · rename_i hex
        exact ⟨_, _, _, _, _, _, _, _, _, _, _, _, _, rfl, hex.choose_spec⟩
      · cases hv
    · cases hv
  obtain ⟨pb, pv, n, b1, v1, b2, v2, at1, fr, p, fv, x, y, rfl, hP⟩ := hargs
  rw [F161_at hP] at hv
  obtain ⟨rfl, rfl⟩ := Prod.mk.inj (Option.some.inj hv)
  clear hv
  have hl1 := hP.fl
  have hfl := alenS_ints hP.fi
  have hlb := hP.lb
  have hle := hP.le
  have hnl := hP.len
  simp only [← alen22] at hfl
  have hput : ∀ L : List Int, (put161 H pb pv L).at pb pv = some ⟨pv, L.map (.int .i64), true, true⟩ := fun L => at_put_same hP.blk rfl
  have hself : put161 H pb pv at1 = H := put_self hP.blk
  refine ⟨rfl, go ?_⟩
  unfold c161
  simp only [argSl]
  replace hP := Hide.mk hP
  repeat' (first | apply goSeq | apply goReg | apply goSeqN | apply goSeqR | apply goSkip | apply goRet | apply goNil | apply goBlock | apply goExit | apply goBlkN | apply goBlkR | apply goBlkE | apply goSeqE | apply goLoopR | apply goLoopE | refine xOp ?_ | refine xOp0 ?_ | refine xYes ?_ | refine xNo ?_ | refine xNoU ?_ | refine xIfT ?_ | refine xIfF ?_ | refine xIf ?_ ?_ | refine xSplit ?_ ?_ | refine xIfQ ?_ ?_ | refine xSplitQ ?_ ?_ | refine xBlkX ?_ | intro _)
  refine goLoop (fun m s1 G => ∃ i : Nat, m = fr.length - i ∧ i ≤ fr.length ∧ G = put161 H pb pv (addL (at1.take i) (fr.take i) ++ at1.drop i) ∧ get s1 0 = .sl pb pv 0 n 1 true ∧ get s1 2 = .ptr b2 v2 0 ∧ get s1 7 = fv ∧ get s1 8 = .int .i64 fr.length ∧ get s1 9 = .int .i64 i) fr.length ?_ ?_
  · exact ⟨0, rfl, Nat.zero_le _, by simpa [addL] using hself.symm, rfl, rfl, rfl, rfl, rfl⟩
  rintro m s1 G ⟨i, hmm, hi, rfl, g1, g2, g3, g4, g5⟩
  simp only [cut_cons, cut_nil, g1, g2, g3, g4, g5]
  clear g1 g2 g3 g4 g5 hl1
  have hi0 : (0 : Int) ≤ i := Int.natCast_nonneg i
  have hw1 : w ((i : Int) + 1) = ((i + 1 : Nat) : Int) := w_id (by omega)
  have hLl : (addL (at1.take i) (fr.take i) ++ at1.drop i).length = n := by simp [addL_len]; omega
  have hblk := hput (addL (at1.take i) (fr.take i) ++ at1.drop i)
  have hfi : ints (put161 H pb pv (addL (at1.take i) (fr.take i) ++ at1.drop i)) fv = some fr := by
    unfold put161; rw [ints_put hP.out.fo]; exact hP.out.fi
  have hti : ints (put161 H pb pv (addL (at1.take i) (fr.take i) ++ at1.drop i)) (.sl pb pv 0 n 1 true) = some (addL (at1.take i) (fr.take i) ++ at1.drop i) := by
    have := ints_of_ownF (H0 := ⟨[], 0⟩) (l := addL (at1.take i) (fr.take i) ++ at1.drop i) ⟨pb, pv, rfl, Nat.zero_le _, hblk⟩ (by omega)
    rwa [hLl] at this
  have hixf := aidxS_ints hfi .i64
  have hldf := aload_nth T3 rfl hfi
  have hixt := aidxS_ints hti .i64
  have hldt := aload_nth T3 rfl hti
  rw [hLl] at hixt hldt
  simp only [← aidx22] at hixf hixt
  have hx : ints (put161 H pb pv (addL (at1.take i) (fr.take i) ++ at1.drop i)) x = some p.1 := by
    unfold put161; rw [ints_put hP.out.txo]; exact hP.out.tx
  have hy : ints (put161 H pb pv (addL (at1.take i) (fr.take i) ++ at1.drop i)) y = some p.2 := by
    unfold put161; rw [ints_put hP.out.tyo]; exact hP.out.ty
  have htt := tens_of hx hy
  have hlt : aload T 40 (.ptr b2 v2 0) (put161 H pb pv (addL (at1.take i) (fr.take i) ++ at1.drop i)) = some (.agg [x, y]) := by
    unfold put161; rw [aload_put hP.out.tb]; exact hP.out.tl
  by_cases hif : i < fr.length
  · have hin : (i : Int) < n := by omega
    have hif' : (i : Int) < fr.length := by omega
    have hst : astore T 3 (pAt (.sl pb pv 0 n 1 true) i) (.int .i64 (w (nth (addL (at1.take i) (fr.take i) ++ at1.drop i) i + nth fr i))) (put161 H pb pv (addL (at1.take i) (fr.take i) ++ at1.drop i)) = some (put161 H pb pv (addL (at1.take (i + 1)) (fr.take (i + 1)) ++ at1.drop (i + 1))) := by
      simp only [astore, T3, pAt, hblk]
      rw [if_pos (by simp [AV.cells, AV.one, addL_len]; omega)]
      have e1 := setAll_one (addL (at1.take i) (fr.take i) ++ at1.drop i) i (w (nth at1 i + nth fr i))
      rw [addL_take at1 fr i hif (by omega)] at e1
      rw [nth_addL at1 fr i (by omega)]
      simp only [Int.toNat_natCast, Nat.zero_add, Nat.mul_one, AV.cells, e1]
      unfold put161
      rw [put_put]
    generalize hL1 : addL (at1.take i) (fr.take i) ++ at1.drop i = L1 at *
    generalize hL2 : addL (at1.take (i + 1)) (fr.take (i + 1)) ++ at1.drop (i + 1) = L2 at *
    generalize hG1 : put161 H pb pv L1 = G1 at *
    generalize hG2 : put161 H pb pv L2 = G2 at *
    clear hti hx hy htt hlt hblk hput hself
    repeat' (first | apply goSeq | apply goReg | apply goSeqN | apply goSeqR | apply goSkip | apply goRet | apply goNil | apply goBlock | apply goExit | apply goBlkN | apply goBlkR | apply goBlkE | apply goSeqE | apply goLoopR | apply goLoopE | refine xOp ?_ | refine xOp0 ?_ | refine xYes ?_ | refine xNo ?_ | refine xNoU ?_ | refine xIfT ?_ | refine xIfF ?_ | refine xIf ?_ ?_ | refine xSplit ?_ ?_ | refine xIfQ ?_ ?_ | refine xSplitQ ?_ ?_ | refine xBlkX ?_ | intro _)
    exact goLoopN (fr.length - (i + 1)) (by omega) ⟨i + 1, rfl, by omega, by rw [hL2]; exact hG2.symm, rfl, rfl, rfl, rfl, rfl⟩
  · have hLe : addL (at1.take i) (fr.take i) ++ at1.drop i = addL at1 fr := by
      have hif' : i = fr.length := by omega
      subst hif'
      have : ∀ (l m : List Int), m.length ≤ l.length → addL (l.take m.length) (m.take m.length) ++ l.drop m.length = addL l m := by
        intro l
        induction l with
        | nil => intro m h; cases m <;> simp [addL]
        | cons a l ih =>
          intro m h
          cases m with
          | nil => simp [addL]
          | cons b m => simpa [addL] using ih m (by simpa using h)
      exact this at1 fr (by omega)
    rw [hLe] at hti htt hlt ⊢
    have hif' : ¬ (i : Int) < fr.length := by omega
    obtain ⟨gg1, gg2⟩ := Hp.at_some hP.out.blk
    clear hput hself hblk hx hy hixf hldf hixt hldt
    generalize hG1 : put161 H pb pv (addL at1 fr) = G1 at *
    repeat' (first | apply goSeq | apply goReg | apply goSeqN | apply goSeqR | apply goSkip | apply goRet | apply goNil | apply goBlock | apply goExit | apply goBlkN | apply goBlkR | apply goBlkE | apply goSeqE | apply goLoopR | apply goLoopE | refine xOp ?_ | refine xOp0 ?_ | refine xYes ?_ | refine xNo ?_ | refine xNoU ?_ | refine xIfT ?_ | refine xIfF ?_ | refine xIf ?_ ?_ | refine xSplit ?_ ?_ | refine xIfQ ?_ ?_ | refine xSplitQ ?_ ?_ | refine xBlkX ?_ | intro _)
    refine ⟨⟨.inr rfl, [.int .i64 (atT p (addL at1 fr))], [], by simp [rs161], ?_⟩⟩
    rw [← hG1]
    refine Can.put hw gg1 rfl ?_ (fun _ _ h => h) rfl
    exact flats_rel (all_flat _)
/- Walks: tensors, made number by number. -/
theorem prodW_nonneg : ∀ (l : List Int) (n : Int) (k : Nat), k + l.length ≤ 4 → (∀ j : Nat, j < l.length → 0 ≤ nth l j ∧ nth l j ≤ 32) → 0 ≤ n → n ≤ ((32 ^ k : Nat) : Int) → 0 ≤ prodW n l := by
  intro l
  induction l with
  | nil => intro n k _ _ h _; exact h
  | cons x l ih =>
    intro n k hk hr h0 hP
    simp only [prodW]
    have hx := hr 0 (by simp)
    have hx' : 0 ≤ x ∧ x ≤ 32 := by simpa [nth] using hx
    have hk1 := pow32 k (by simp at hk; omega)
    have hk2 := pow32 (k + 1) (by simp at hk; omega)
    have hpk : ((32 ^ (k + 1) : Nat) : Int) = ((32 ^ k : Nat) : Int) * 32 := by rw [Nat.pow_succ]; simp
    have hPx := mul_rng (a := n) (b := x) (A := ((32 ^ k : Nat) : Int)) (B := 32) ⟨h0, hP⟩ hx'
    rw [w_id (x := n * x) (by omega)]
    exact ih _ (k + 1) (by simp at hk; omega) (fun j hj => by simpa [nth] using hr (j + 1) (by simpa using hj)) hPx.1 (by omega)
theorem sizeOf_nonneg (l : List Int) : 0 ≤ sizeOf l := by
  unfold sizeOf
  split
  · rename_i h
    obtain ⟨h4, hr⟩ := shapeOK_rng h
    exact prodW_nonneg l 1 0 (by omega) hr (by omega) (by simp)
  · omega
/-- What is called for each place comes to fn, and touches nothing but the place. -/
def CB (E : Env) (f : AV) (H : Hp) (n : Nat) (fn : List Int → Int) : Prop :=
  ∀ G pb pv at1, Ext H G → H.c ≤ pv → at1.length = n → G.at pb pv = some ⟨pv, at1.map (AV.int .i64), true, true⟩ →
    ∃ G', acall E f [.sl pb pv 0 n 1 true] G = some (.int .i64 (fn at1), G') ∧ Ext H G' ∧ G'.c = G.c ∧ ∀ b' ver', (b', ver') ≠ (pb, pv) → Keeps G G' b' ver'
/-- What is called, as a function of the place. -/
def cbF (H : Hp) (f : AV) (n : Nat) : Option (List Int → Int) := match f with
  | .func 139 [.ptr b ver 0] => (match aload T 2 (.ptr b ver 0) H with | some (.int .i64 m) => some (fun _ => m) | _ => none)
  | .func 161 [.ptr b1 v1 0, .ptr b2 v2 0] => (aload T 22 (.ptr b1 v1 0) H).bind fun fv => (ints H fv).bind fun fr => (aload T 40 (.ptr b2 v2 0) H).bind fun tv => (tens H tv).bind fun p => if fr.length ≤ n then some (fun at1 => atT p (addL at1 fr)) else none
  | _ => none
theorem cb_ok {E : Env} (h1 : E 139 = some (.pure F139)) (h2 : E 161 = some (.eff F161)) {H : Hp} (hw : Wf H) {f : AV} {n : Nat} (hn : n ≤ 1099511627776) {fn : List Int → Int} (h : cbF H f n = some fn) : CB E f H n fn := by
  intro G pb pv at1 hx hv hl hk
  unfold cbF at h
  split at h
  · rename_i b ver
    split at h
    · rename_i m hm
      cases h
      refine ⟨G, ?_, hx, rfl, fun _ _ _ _ h => h⟩
      simp only [acall_func, h1, Option.bind_some, run_pure, List.cons_append, List.nil_append, F139, aload_ext hx.pre hm, Option.map_some]
    · cases h
  · rename_i b1 v1 b2 v2
    obtain ⟨fv, hfv, h⟩ := Option.bind_eq_some_iff.1 h
    obtain ⟨fr, hfr, h⟩ := Option.bind_eq_some_iff.1 h
    obtain ⟨tv, htv, h⟩ := Option.bind_eq_some_iff.1 h
    obtain ⟨p, hp, h⟩ := Option.bind_eq_some_iff.1 h
    split at h
    rotate_left
    · cases h
    rename_i hle
    cases h
    obtain ⟨x, y, rfl, hxs, hys⟩ := tens_some hp
    have hP : P161 G pb pv n b1 v1 b2 v2 at1 fr p fv x y :=
      ⟨hk, hl, hn, aload_ext hx.pre hfv, aload_ne hw hx.pre hv hk hfv, ints_ext hx.pre hfr, off_ne hw hx.pre hv hk hfr, aload_ext hx.pre htv, aload_ne hw hx.pre hv hk htv, ints_ext hx.pre hxs, off_ne hw hx.pre hv hk hxs, ints_ext hx.pre hys, off_ne hw hx.pre hv hk hys, hle⟩
    refine ⟨put161 G pb pv (addL at1 fr), ?_, put_ext hw hx hv hk, rfl, fun b' ver' hne => Keeps.put2 hk hne⟩
    simp only [acall_func, h2, Option.bind_some, run_eff, List.cons_append, List.nil_append, F161_at hP]
  · cases h
/-- A copy of a list. -/
def clT (s : AV) (l : List Int) : Tr := match s with | .nilS => trS [] | _ => trC l
theorem clT_is {H : Hp} {s : AV} {l : List Int} (h : ints H s = some l) : isL (clT s l) l := by
  unfold clT
  split
  · cases h; exact .inl rfl
  · exact .inr (.inr rfl)
def madeL (fn : List Int → Int) (s : List Int) : List Int := (List.range (sizeOf s).toNat).map fun (i : Nat) => fn (meshAt s (i : Int))
theorem madeL_len (fn : List Int → Int) (s : List Int) : (madeL fn s).length = (sizeOf s).toNat := by simp [madeL]
def notMt (_ : AV) : Bool := true
/-- What Clone comes to. -/
theorem F103_at {H : Hp} {s : AV} {l : List Int} (h : ints H s = some l) (hm : notMt s = true) (hl : l.length < 1099511627776) : F103 [s] H = some (mk (clT s l) H) := by
  unfold ints at h
  split at h
  · cases h; rfl
  · cases h; rfl
  · rename_i b ver o n es f
    show (ints H (.sl b ver o n es f)).bind _ = _
    have : ints H (.sl b ver o n es f) = some l := h
    rw [this, Option.bind_some, if_pos hl]
    rfl
  · cases h
def F138 (args : List AV) (H : Hp) : Option (AV × Hp) := match args with
  | [s, f] => (ints H s).bind fun l => (cbF H f l.length).bind fun fn => if notMt s = true ∧ l.length < 1099511627776 then some (mk (.agg [clT s l, trF (madeL fn l)]) H) else none
  | _ => none
set_option maxHeartbeats 2000000 in
theorem snd138 : Sound Try.prog 138 (FSem.eff F138).run := by
  refine sound_of hT (EOK_cons snd95 (EOK_cons snd103 (EOK_cons snd136 (EOK_cons snd139 (EOK_cons snd161 (EOK_nil _)))))) mixed A138 Try.func138 hb138 (by kernel_rfl) (by kernel_rfl) (by kernel_rfl) (by kernel_rfl) sh138 2 (by kernel_rfl) rs138 hr138 ?_
  intro args H r H' hw h
  have hv : F138 args H = some (r, H') := h
  clear h
  unfold F138 at hv
  split at hv
  · rename_i sv f
    obtain ⟨s, hs, hv⟩ := Option.bind_eq_some_iff.1 hv
    obtain ⟨fn, hfn, hv⟩ := Option.bind_eq_some_iff.1 hv
    split at hv
    rotate_left
    · cases hv
    rename_i hmax
    obtain ⟨hmt, hmax⟩ := hmax
    replace hv := Option.some.inj hv
    have hle := sizeOf_le s
    have hge := sizeOf_nonneg s
    have hcb := cb_ok (E := envL [(95, FSem.eff F95), (103, FSem.eff F103), (136, FSem.pure F136), (139, FSem.pure F139), (161, FSem.eff F161)]) rfl rfl hw (by omega) hfn
    generalize hn : (sizeOf s).toNat = n at *
    have hmi : ∀ i : Nat, i < n → nth (madeL fn s) i = fn (meshAt s i) := by
      intro i hi
      simp [madeL, nth, hn, hi]
    have hml := madeL_len fn s
    rw [hn] at hml
    generalize madeL fn s = D at *
    have hfa : ∀ G, acall (envL [(95, FSem.eff F95), (103, FSem.eff F103), (136, FSem.pure F136), (139, FSem.pure F139), (161, FSem.eff F161)]) f G = acall (envL [(95, FSem.eff F95), (103, FSem.eff F103), (136, FSem.pure F136), (139, FSem.pure F139), (161, FSem.eff F161)]) f G := fun _ => rfl
    clear hfn hfa
    -- the result's cell
    have x0 : Ext H (H.new [.nilS, .nilS]) := (Ext.refl hw).new _
    have c0 : OwnC H (H.new [.nilS, .nilS]) H.bs.length H.c [.nilS, .nilS] := ⟨Nat.le_refl _, new_at _ _⟩
    have hvlt : H.c < (H.new [AV.nilS, AV.nilS]).c := Nat.lt_succ_self _
    generalize hH0 : H.new [.nilS, .nilS] = H0 at *
    generalize hp0 : H.bs.length = p0 at *
    generalize hq0 : H.c = q0 at *
    have hs0 := ints_ext x0.pre hs
    -- the shape
    have e103 := F103_at hs0 hmt hmax
    obtain ⟨b1, r1, f1, x1⟩ := mk_rep (clT sv s) (c0 := 0) x0.wf (Nat.zero_le _) ((clT_is hs0).ok 0)
    have hshi := (clT_is hs0).ints (by omega) r1
    generalize hr1 : mk (clT sv s) H0 = tt at *
    obtain ⟨shv, H1⟩ := tt
    simp only at r1 f1 x1 hshi
    have hone := ints_one' hshi
    have hs1 := ints_ext x1.pre hs0
    -- the numbers
    obtain ⟨dav, H2, e2, o2, x2⟩ := make_own (Ext.refl x1.wf) n (by omega)
    obtain ⟨b2, r2, f2⟩ := o2.repF x2.wf
    have hone2 := ownF_one o2
    have hbd := bld40_one hone hone2
    -- the tensor
    have c3 : OwnC H2 (H2.new [.nilS, .nilS]) H2.bs.length H2.c [.nilS, .nilS] := ⟨Nat.le_refl _, new_at _ _⟩
    have x3 : Ext H2 (H2.new [.nilS, .nilS]) := (Ext.refl x2.wf).new _
    have st := st40 (x := shv) (y := dav) (new_at H2 [.nilS, .nilS]) hone hone2
    obtain ⟨c4, x4⟩ := c3.wr x2.wf x3 [shv, dav]
    have hq3lt : H2.c < ((H2.new [.nilS, .nilS]).put H2.bs.length ⟨H2.c, [shv, dav], true, true⟩).c := Nat.lt_succ_self _
    generalize hH3 : H2.new [.nilS, .nilS] = H3 at *
    generalize hp3 : H2.bs.length = p3 at *
    generalize hq3 : H2.c = q3 at *
    generalize hH4 : H3.put p3 ⟨q3, [shv, dav], true, true⟩ = H4 at *
    have l1 := ld38 c4.at' 1
    simp only [List.getElem?_cons_zero, List.getElem?_cons_succ] at l1
    have c0' := ((c0.ext x1.pre).ext x2.pre).ext x4.pre
    have rs4 := (Rep.ext x2.pre r1).ext x4.pre
    have rd4 := Rep.ext x4.pre r2
    have x04 : Ext H H4 := ((x0.trans x1).trans x2).trans x4
    have hdl : alen T 38 dav = some (.int .i64 n) := by
      rw [alen38, alenS_ints (ints_of_ownF o2 (by simp; omega))]; simp
    have h01 : q0 ≤ H0.c := Nat.le_of_lt hvlt
    have h11 : H0.c ≤ H1.c := x1.c
    have h12 : H1.c ≤ q3 := by have := x2.c; omega
    have hszn : sizeOf s = n := by omega
    clear hle hge c0 x0 x1 x2 c3 x3 r1 r2 hshi o2
    replace hv := Hide.mk hv
    replace hs := Hide.mk hs
    replace hcb := Hide.mk hcb
    replace hmi := Hide.mk hmi
    replace f1 := Hide.mk f1
    replace f2 := Hide.mk f2
    replace c4 := Hide.mk c4
    replace c0' := Hide.mk c0'
    replace rs4 := Hide.mk rs4
    replace rd4 := Hide.mk rd4
    replace x04 := Hide.mk x04
    replace hml := Hide.mk hml
    have hx4 := Hide.mk x4
    clear x4
    have em := amake38
    refine ⟨rfl, go ?_⟩
    unfold c138
    simp only [argSl]
    repeat' (first | apply goSeq | apply goReg | apply goSeqN | apply goSeqR | apply goSkip | apply goRet | apply goNil | apply goBlock | apply goExit | apply goBlkN | apply goBlkR | apply goBlkE | apply goSeqE | apply goLoopR | apply goLoopE | refine xOp ?_ | refine xOp0 ?_ | refine xYes ?_ | refine xNo ?_ | refine xNoU ?_ | refine xIfT ?_ | refine xIfF ?_ | refine xIf ?_ ?_ | refine xSplit ?_ ?_ | refine xIfQ ?_ ?_ | refine xSplitQ ?_ ?_ | refine xBlkX ?_ | intro _)
    have hHc : H.c ≤ q0 := by omega
    have hH2c : H2.c ≤ q3 := by omega
    clear hH0 hp0 hq0 hs0 hr1 e103 hs1 e2 hbd hH3 hp3 hq3 hH4 st l1 hdl em
    refine goLoop (fun m s1 G => ∃ (i : Nat) (L : List Int), m = n - i ∧ i ≤ n ∧ L.length = n ∧ get s1 0 = sv ∧ get s1 1 = f ∧ get s1 4 = .ptr p0 q0 0 ∧ get s1 5 = .ptr p3 q3 0 ∧ get s1 15 = .int .i64 n ∧ get s1 16 = .int .i64 i ∧ Ext H G ∧ q3 < G.c ∧ OwnC H G p0 q0 [.nilS, .nilS] ∧ OwnC H2 G p3 q3 [shv, dav] ∧ Rep H0.c G (clT sv s) shv b1 ∧ Rep H1.c G (trF L) dav b2 ∧ ∀ j : Nat, j < i → nth L j = nth D j) n ?_ ?_
    · exact ⟨0, List.replicate n 0, rfl, Nat.zero_le _, by simp, rfl, rfl, rfl, rfl, rfl, rfl, x04.out, hq3lt, c0'.out, c4.out, rs4.out, rd4.out, by simp⟩
    clear c0' c4 rs4 rd4
    rintro m s1 G ⟨i, L, hmm, hi, hLn, g1, g2, g3, g4, g5, g6, hx, hqG, d0, d3, hr, hd, hL⟩
    simp only [cut_cons, cut_nil, g1, g2, g3, g4, g5, g6]
    clear g1 g2 g3 g4 g5 g6
    have hi0 : (0 : Int) ≤ i := Int.natCast_nonneg i
    have hw1 : w ((i : Int) + 1) = ((i + 1 : Nat) : Int) := w_id (by have := sizeOf_le s; omega)
    have l1 := ld38 d3.at' 1
    have l2 := ld40 d3.at'
    simp only [List.getElem?_cons_zero, List.getElem?_cons_succ] at l1
    replace hL := Hide.mk hL
    by_cases hin : i < n
    · have hsG := ints_ext hx.pre hs.out
      have e95 : F95 [sv, .int .i64 i] G = some (mkF G (meshAt s i)) := by
        simp only [F95, hsG, Option.map_some]
        rw [if_neg (by omega)]
      have hxm := mkF_ext hx.wf (meshAt s i)
      obtain ⟨G2, ef, x2, c2, k2⟩ := hcb.out (mkF G (meshAt s i)).2 G.bs.length G.c (meshAt s i) (hx.trans hxm) hx.c (meshAt_len s i) (new_at G _)
      have k1 : ∀ b' ver', ver' < G.c → Keeps G G2 b' ver' := fun b' ver' hlt => (Keeps.pre hxm.pre b' ver').trans (k2 b' ver' (fun e => by cases e; omega))
      have d31 := d3.ext hxm.pre
      have l1' := ld38 d31.at' 1
      have d32 := d3.keep (k1 p3 q3 hqG)
      have l1'' := ld38 d32.at' 1
      simp only [List.getElem?_cons_zero, List.getElem?_cons_succ] at l1' l1''
      have d02 := d0.keep (k1 p0 q0 (by omega))
      have hr2 := Rep.keep (clT sv s) (fun p hp => k1 p.1 p.2 (by have := (f1.out.2 p hp).2; omega)) hr
      have hd2 := Rep.keep (trF L) (fun p hp => k1 p.1 p.2 (by have := (f2.out.2 p hp).2; omega)) hd
      have hixd : aidx T 38 dav (.int .i64 i) = some (pAt dav i) := by
        have := aidxS_ints (isL.ints (.inr (.inl rfl)) (by have := sizeOf_le s; omega) hd) .i64 i
        rw [aidx38, this, if_pos (by omega)]
      have hml' := meshAt_len s i
      have hpl : (mkF G (meshAt s i)).1 = .sl G.bs.length G.c 0 s.length 1 true := by simp [mkF, hml']
      rw [← trF_B] at hd2
      obtain ⟨G3, e3, hd3, k3, x3, c3⟩ := rep_store (.inr rfl) hd2 i (by omega) (fn (meshAt s i))
      have hr3 := Rep.keep (clT sv s) (fun p hp => k3 p.1 p.2 (fun hm => by have := (f1.out.2 p hp).2; have := (f2.out.2 _ hm).1; omega)) hr2
      have d33 := d32.keep (k3 p3 q3 (fun hm => by have := (f2.out.2 _ hm).2; simp only at this; omega))
      have d03 := d02.keep (k3 p0 q0 (fun hm => by have := (f2.out.2 _ hm).1; simp only at this; omega))
      have x4 := x3 H hw x2 (by omega)
      have hc3 : q3 < G3.c := by
        have h1 : G3.c = G2.c := c3
        have h2 : G2.c = (mkF G (meshAt s i)).2.c := c2
        have h3 : G.c ≤ (mkF G (meshAt s i)).2.c := hxm.c
        omega
      have hin' : (i : Int) < n := by omega
      rw [← hpl] at ef
      generalize hmk : mkF G (meshAt s i) = gg at *
      obtain ⟨pl, G1⟩ := gg
      simp only at ef l1'
      generalize hval : fn (meshAt s i) = y at *
      clear hsG hmk hpl hxm x2 k2 k1 d31 d32 d02 hr2 hd2 k3 x3 c3 c2 hml' d3 d0 hr hd hx
      replace hr3 := Hide.mk hr3
      replace d33 := Hide.mk d33
      replace d03 := Hide.mk d03
      replace hd3 := Hide.mk hd3
      replace x4 := Hide.mk x4
      have hval' := Hide.mk hval
      clear hval
      repeat' (first | apply goSeq | apply goReg | apply goSeqN | apply goSeqR | apply goSkip | apply goRet | apply goNil | apply goBlock | apply goExit | apply goBlkN | apply goBlkR | apply goBlkE | apply goSeqE | apply goLoopR | apply goLoopE | refine xOp ?_ | refine xOp0 ?_ | refine xYes ?_ | refine xNo ?_ | refine xNoU ?_ | refine xIfT ?_ | refine xIfF ?_ | refine xIf ?_ ?_ | refine xSplit ?_ ?_ | refine xIfQ ?_ ?_ | refine xSplitQ ?_ ?_ | refine xBlkX ?_ | intro _)
      apply goDrw
      iterate 9 (apply goTOp; (· (simp [*]; try exact rfl)); (· exact rfl))
      apply goTOp0; (· (simp [*]; try exact rfl)); (· exact rfl)
      refine goTNil (by simp [again, XG_none, l1, l1', l1'']) ?_
      repeat' (first | apply goSeq | apply goReg | apply goSeqN | apply goSeqR | apply goSkip | apply goRet | apply goNil | apply goBlock | apply goExit | apply goBlkN | apply goBlkR | apply goBlkE | apply goSeqE | apply goLoopR | apply goLoopE | refine xOp ?_ | refine xOp0 ?_ | refine xYes ?_ | refine xNo ?_ | refine xNoU ?_ | refine xIfT ?_ | refine xIfF ?_ | refine xIf ?_ ?_ | refine xSplit ?_ ?_ | refine xIfQ ?_ ?_ | refine xSplitQ ?_ ?_ | refine xBlkX ?_ | intro _)
      refine goLoopN (n - (i + 1)) (by omega) ⟨i + 1, L.set i y, rfl, by omega, by simp [hLn], rfl, rfl, rfl, rfl, rfl, rfl, x4.out, hc3, d03.out, d33.out, hr3.out, by rw [← trF_B]; exact hd3.out, ?_⟩
      intro j hj
      by_cases hji : j = i
      · subst hji
        rw [hmi.out j hin, hval'.out]
        simp [nth, hLn, hin]
      · rw [← hL.out j (by omega)]
        simp only [nth, Int.toNat_natCast, List.getD_eq_getElem?_getD]
        rw [List.getElem?_set_ne (fun e => hji e.symm)]
    · have hin' : ¬ (i : Int) < n := by omega
      have d0' := d0.at'
      have st := st40 (x := shv) (y := dav) d0' hone hone2
      have hkp : ∀ b' ver', ver' ≠ q0 → Keeps G (G.put p0 ⟨q0, [shv, dav], true, true⟩) b' ver' := fun b' ver' h => Keeps.put d0' h
      have lr := ld40 (at_put_same (k' := ⟨q0, [shv, dav], true, true⟩) d0' rfl)
      have hp := put_ext (cs := [shv, dav]) hw hx hHc d0'
      have hLD : L = D := by
        apply List.ext_getElem
        · rw [hLn, hml.out]
        · intro j h1 h2
          have := hL.out j (by omega)
          simpa [nth, h1, h2] using this
      subst hLD
      replace d0 := Hide.mk d0
      replace d3 := Hide.mk d3
      replace d0' := Hide.mk d0'
      replace hkp := Hide.mk hkp
      replace hx := Hide.mk hx
      replace hd := Hide.mk hd
      replace hr := Hide.mk hr
      replace hp := Hide.mk hp
      repeat' (first | apply goSeq | apply goReg | apply goSeqN | apply goSeqR | apply goSkip | apply goRet | apply goNil | apply goBlock | apply goExit | apply goBlkN | apply goBlkR | apply goBlkE | apply goSeqE | apply goLoopR | apply goLoopE | refine xOp ?_ | refine xOp0 ?_ | refine xYes ?_ | refine xNo ?_ | refine xNoU ?_ | refine xIfT ?_ | refine xIfF ?_ | refine xIf ?_ ?_ | refine xSplit ?_ ?_ | refine xIfQ ?_ ?_ | refine xSplitQ ?_ ?_ | refine xBlkX ?_ | intro _)
      have hlo : ∀ p ∈ b1 ++ b2, p.2 ≠ q0 := fun p hp => by
        rcases List.mem_append.1 hp with hp | hp
        · have := (f1.out.2 p hp).1; omega
        · have := (f2.out.2 p hp).1; omega
      refine goEndR (vs := [.agg [shv, dav]]) (bs := b1 ++ b2) (d := q3) (t := .agg [clT sv s, trF L]) hw hp.out.pre ?_ ?_ (by simp) (by simp [rs138, lr]) rfl hv.out
      · refine rep_agg2.2 ⟨shv, dav, b1, b2, rfl, ?_, ?_, rfl⟩
        · exact rep_down _ (c0 := 0) ((clT_is hs.out).ok 0) (Nat.zero_le _) (by omega) (Rep.keep (clT sv s) (fun p hp => hkp.out p.1 p.2 (hlo p (by simp [hp]))) hr.out)
        · exact rep_down _ (c0 := 0) (okT_F 0 _) (Nat.zero_le _) (by omega) (Rep.keep (trF L) (fun p hp => hkp.out p.1 p.2 (hlo p (by simp [hp]))) hd.out)
      · exact (f1.out.wide (by omega) (Nat.le_refl _)).app f2.out (by omega) h12
  · cases hv
/- Walks: filled tensors; parts of tensors. -/
@[simp] theorem xdo_mkf {E : Env} {sh : Bool} {s : Sl} {H : Hp} (g : Nat) (caps : Array Operand) : xdo E T sh (.makeFunc (.func g) #[] caps) s H = some (.func g (caps.toList.map (ev s)), H) := by simp [xdo, aop]
theorem abox_one {x : AV} (H : Hp) (h : x.one = true) : abox x H = some (.ptr H.bs.length H.c 0, H.new [x]) := by
  have hx : x.cells = [x] := by cases x <;> first | rfl | cases h
  simp [abox, hx, h]
theorem rep_tupI {c : Nat} {H : Hp} {a : Tr} {n : Int} {x : AV} {bs : List (Nat × Nat)} : Rep c H (.tup [a, .at (.int .i64 n)]) (.tup [x, .int .i64 n]) bs ↔ Rep c H a x bs := by
  simp only [Rep, Reps]
  constructor
  · rintro ⟨vs, e, v, vs', b1, b2, rfl, h1, ⟨w, vs'', b3, b4, rfl, ⟨rfl, rfl, _⟩, ⟨rfl, rfl⟩, rfl⟩, rfl⟩
    cases e
    simpa using h1
  · intro h
    exact ⟨_, rfl, x, _, bs, [], rfl, h, ⟨_, [], [], [], rfl, ⟨rfl, rfl, rfl⟩, ⟨rfl, rfl⟩, rfl⟩, by simp⟩
/-- No tensor, and why. -/
def zeroT (e : Int) : Tr := .tup [.agg [.at .nilS, .at .nilS], .at (.int .i64 e)]
def okTn (a b : Tr) : Tr := .tup [.agg [a, b], .at (.int .i64 0)]
theorem rep_zero (c : Nat) (H : Hp) (e : Int) : Rep c H (zeroT e) (.tup [.agg [.nilS, .nilS], .int .i64 e]) [] := by
  unfold zeroT
  rw [rep_tupI, rep_agg2]
  exact ⟨_, _, [], [], rfl, by simp [Rep, old], by simp [Rep, old], rfl⟩
theorem mk_zero (H : Hp) (e : Int) : mk (zeroT e) H = (.tup [.agg [.nilS, .nilS], .int .i64 e], H) := by simp [zeroT, mk, mks]
theorem mk_okTn (H : Hp) (a b : Tr) : mk (okTn a b) H = (.tup [(mk (.agg [a, b]) H).1, .int .i64 0], (mk (.agg [a, b]) H).2) := by simp [okTn, mk, mks]
/-- A filled tensor. -/
def fillT (s : AV) (l : List Int) (n : Int) : Tr := if shapeOK l = true then okTn (clT s l) (trF (madeL (fun _ => n) l)) else zeroT 13
def F94 (args : List AV) (H : Hp) : Option (AV × Hp) := match args with
  | [s, .int .i64 n] => (ints H s).bind fun l => if notMt s = true ∧ l.length < 1099511627776 then some (mk (fillT s l n) H) else none
  | _ => none
set_option maxHeartbeats 1000000 in
theorem snd94 : Sound Try.prog 94 (FSem.eff F94).run := by
  refine sound_of hT (EOK_cons snd90 (EOK_cons snd138 (EOK_nil _))) mixed A94 Try.func94 hb94 (by kernel_rfl) (by kernel_rfl) (by kernel_rfl) (by kernel_rfl) sh94 2 (by kernel_rfl) rs94 hr94 ?_
  intro args H r H' hw h
  have hv : F94 args H = some (r, H') := h
  clear h
  unfold F94 at hv
  split at hv
  · rename_i sv n
    obtain ⟨s, hs, hv⟩ := Option.bind_eq_some_iff.1 hv
    split at hv
    rotate_left
    · cases hv
    rename_i hmax
    obtain ⟨hmt, hmax⟩ := hmax
    replace hv := Option.some.inj hv
    have hbx := abox_one (x := .int .i64 n) H rfl
    have x0 : Ext H (H.new [.int .i64 n]) := (Ext.refl hw).new _
    have a0 := new_at H [AV.int .i64 n]
    have hvlt : H.c < (H.new [AV.int .i64 n]).c := Nat.lt_succ_self _
    generalize hH0 : H.new [.int .i64 n] = H0 at *
    generalize hp0 : H.bs.length = p0 at *
    generalize hq0 : H.c = q0 at *
    have x1 : Ext H0 (H0.new [.nilS, .nilS]) := (Ext.refl x0.wf).new _
    have a1 := new_at H0 [.nilS, .nilS]
    have hq1 : q0 < H0.c := hvlt
    have c1 : OwnC H0 (H0.new [.nilS, .nilS]) H0.bs.length H0.c [.nilS, .nilS] := ⟨Nat.le_refl _, a1⟩
    have hq1lt : H0.c < (H0.new [AV.nilS, AV.nilS]).c := Nat.lt_succ_self _
    generalize hH1 : H0.new [.nilS, .nilS] = H1 at *
    generalize hp1 : H0.bs.length = p1 at *
    generalize hq1' : H0.c = q1 at *
    have x01 : Ext H H1 := x0.trans x1
    have hs1 := ints_ext x01.pre hs
    have hHc : H.c ≤ q1 := by omega
    refine ⟨rfl, go ?_⟩
    unfold c94
    simp only [argSl]
    replace hv := Hide.mk hv
    replace hs := Hide.mk hs
    replace x0 := Hide.mk x0
    replace x1 := Hide.mk x1
    replace x01 := Hide.mk x01
    replace a0 := Hide.mk a0
    replace c1 := Hide.mk c1
    rcases hok : shapeOK s with _ | _
    · have st := st40 (x := .nilS) (y := .nilS) c1.out.at' rfl rfl
      have lr := ld40 (at_put_same (k' := ⟨q1, [.nilS, .nilS], true, true⟩) c1.out.at' rfl)
      have hp := put_ext (cs := [.nilS, .nilS]) hw x01.out hHc c1.out.at'
      replace hp := Hide.mk hp
      replace a1 := Hide.mk a1
      repeat' (first | apply goSeq | apply goReg | apply goSeqN | apply goSeqR | apply goSkip | apply goRet | apply goNil | apply goBlock | apply goExit | apply goBlkN | apply goBlkR | apply goBlkE | apply goSeqE | apply goLoopR | apply goLoopE | refine xOp ?_ | refine xOp0 ?_ | refine xYes ?_ | refine xNo ?_ | refine xNoU ?_ | refine xIfT ?_ | refine xIfF ?_ | refine xIf ?_ ?_ | refine xSplit ?_ ?_ | refine xIfQ ?_ ?_ | refine xSplitQ ?_ ?_ | refine xBlkX ?_ | intro _)
      refine goEndR (vs := [.agg [.nilS, .nilS], .int .i64 13]) (bs := []) (d := H.c) (t := zeroT 13) hw hp.out.pre (rep_zero _ _ _) (Fresh.nil _ _) (by simp) (by simp [rs94, lr]) rfl ?_
      rw [← hv.out]; simp [fillT, hok]
    · have hcb : cbF H1 (.func 139 [.ptr p0 q0 0]) s.length = some (fun _ => n) := by
        have : aload T 2 (.ptr p0 q0 0) H1 = some (.int .i64 n) := by simp [aload, T2, x1.out.pre.at a0.out]
        simp only [cbF, this]
      have e138 : F138 [sv, .func 139 [.ptr p0 q0 0]] H1 = some (mk (.agg [clT sv s, trF (madeL (fun _ => n) s)]) H1) := by
        show (ints H1 sv).bind _ = _
        rw [hs1, Option.bind_some, hcb, Option.bind_some, if_pos ⟨hmt, hmax⟩]
      obtain ⟨bs, r1, f1, x2, t2⟩ := mk_tens (H := H1) x01.out.wf (a := clT sv s) (b := trF (madeL (fun _ => n) s)) (clT_is hs1) (.inr (.inl rfl)) (by omega) (by rw [madeL_len]; have := sizeOf_le s; omega)
      generalize hr1 : mk (.agg [clT sv s, trF (madeL (fun _ => n) s)]) H1 = tt at *
      obtain ⟨tv, H2⟩ := tt
      simp only at r1 f1 x2 t2
      obtain ⟨shv, dav, b1, b2, rfl, rs1, rd1, hbs⟩ := rep_agg2.1 r1
      obtain ⟨_, _, hag, hsi, hdi⟩ := tens_some t2
      cases hag
      have hone := ints_one' hsi
      have hone2 := ints_one' hdi
      have c2 := c1.out.ext x2.pre
      have st := st40 (x := shv) (y := dav) c2.at' hone hone2
      have lr := ld40 (at_put_same (k' := ⟨q1, [shv, dav], true, true⟩) c2.at' rfl)
      have hkp : ∀ b' ver', ver' ≠ q1 → Keeps H2 (H2.put p1 ⟨q1, [shv, dav], true, true⟩) b' ver' := fun b' ver' h => Keeps.put c2.at' h
      have hp := put_ext (cs := [shv, dav]) hw (x01.out.trans x2) hHc c2.at'
      replace hp := Hide.mk hp
      replace a1 := Hide.mk a1
      replace r1 := Hide.mk r1
      replace f1 := Hide.mk f1
      replace hkp := Hide.mk hkp
      replace c2 := Hide.mk c2
      replace x2 := Hide.mk x2
      clear rs1 rd1 hsi hdi t2 hcb hr1
      repeat' (first | apply goSeq | apply goReg | apply goSeqN | apply goSeqR | apply goSkip | apply goRet | apply goNil | apply goBlock | apply goExit | apply goBlkN | apply goBlkR | apply goBlkE | apply goSeqE | apply goLoopR | apply goLoopE | refine xOp ?_ | refine xOp0 ?_ | refine xYes ?_ | refine xNo ?_ | refine xNoU ?_ | refine xIfT ?_ | refine xIfF ?_ | refine xIf ?_ ?_ | refine xSplit ?_ ?_ | refine xIfQ ?_ ?_ | refine xSplitQ ?_ ?_ | refine xBlkX ?_ | intro _)
      refine goEndR (vs := [.agg [shv, dav], .int .i64 0]) (bs := bs) (d := H2.c) (t := okTn (clT sv s) (trF (madeL (fun _ => n) s))) hw hp.out.pre ?_ ?_ (by simp) (by simp [rs94, lr]) rfl ?_
      · unfold okTn
        show Rep _ _ _ (AV.tup [_, _]) _
        rw [rep_tupI]
        have := Rep.keep _ (fun p hp => hkp.out p.1 p.2 (by have := (f1.out.2 p hp).1; omega)) r1.out
        exact rep_down _ (c0 := 0) (by simp [okT, okTs, (clT_is hs.out).ok, okT_F]) (Nat.zero_le _) (by omega) this
      · exact f1.out.wide (by omega) (Nat.le_refl _)
      · rw [← hv.out]; simp [fillT, hok]
  · cases hv
/- Walks: what may be cut out; slices of tensors; a device's part. -/
def slGo : List Int → List Int → List Int → Int
  | n :: s, a :: f, z :: q => if a < 0 ∨ n < a ∨ z < 0 ∨ w (n - a) < z then 1 else slGo s f q
  | _, _, _ => 0
/-- May it be cut out? -/
def slicedL (s f q : List Int) : Int := if f.length ≠ s.length ∨ q.length ≠ s.length then 1 else slGo s f q
def F160 (args : List AV) (H : Hp) : Option AV := match args with
  | [a, b, c] => (ints H a).bind fun s => (ints H b).bind fun f => (ints H c).map fun q => .int .i64 (slicedL s f q)
  | _ => none
set_option maxHeartbeats 1000000 in
theorem snd160 : Sound Try.prog 160 (FSem.pure F160).run := by
  refine sound_of hT (EOK_nil _) mixed A160 Try.func160 hb160 (by kernel_rfl) (by kernel_rfl) (by kernel_rfl) (by kernel_rfl) sh160 3 (by kernel_rfl) rs160 hr160 ?_
  intro args H r H' hw h
  obtain ⟨rfl, hv⟩ := pureAt h
  clear h
  unfold F160 at hv
  split at hv
  · rename_i a b c
    obtain ⟨s, hs, hv⟩ := Option.bind_eq_some_iff.1 hv
    obtain ⟨f, hf, hv⟩ := Option.bind_eq_some_iff.1 hv
    obtain ⟨q, hq, hv⟩ := Option.map_eq_some_iff.1 hv
    cases hv
    have hlen := alenS_ints hs
    have hlen2 := alenS_ints hf
    have hlen3 := alenS_ints hq
    have hb := ints_len hs
    have hix := aidxS_ints hs .i64
    have hld := aload_nth T3 rfl hs
    have hix2 := aidxS_ints hf .i64
    have hld2 := aload_nth T3 rfl hf
    have hix3 := aidxS_ints hq .i64
    have hld3 := aload_nth T3 rfl hq
    refine ⟨rfl, go ?_⟩
    unfold c160
    simp only [argSl]
    simp only [← aidx22, ← alen22] at hix hlen hix2 hlen2 hix3 hlen3
    clear hs hf hq
    by_cases h1 : f.length = s.length
    · by_cases h2 : q.length = s.length
      · have hres : slicedL s f q = slGo s f q := by simp [slicedL, h1, h2]
        rw [hres]
        have h1i : (f.length : Int) = s.length := by omega
        have h2i : (q.length : Int) = s.length := by omega
        rw [h1i] at hix2 hld2 hlen2
        rw [h2i] at hix3 hld3 hlen3
        have h1h := Hide.mk h1
        have h2h := Hide.mk h2
        clear h1 h2 h1i h2i hres
        repeat' (first | apply goSeq | apply goReg | apply goSeqN | apply goSeqR | apply goSkip | apply goRet | apply goNil | apply goBlock | apply goExit | apply goBlkN | apply goBlkR | apply goBlkE | apply goSeqE | apply goLoopR | apply goLoopE | refine xOp ?_ | refine xOp0 ?_ | refine xYes ?_ | refine xNo ?_ | refine xNoU ?_ | refine xIfT ?_ | refine xIfF ?_ | refine xIf ?_ ?_ | refine xSplit ?_ ?_ | refine xIfQ ?_ ?_ | refine xSplitQ ?_ ?_ | refine xBlkX ?_ | intro _)
        refine goLoop (fun m s1 H1 => H1 = H' ∧ ∃ (i : Nat), m = s.length - i ∧ i ≤ s.length ∧ get s1 1 = b ∧ get s1 2 = c ∧ get s1 21 = a ∧ get s1 22 = .int .i64 s.length ∧ get s1 23 = .int .i64 i ∧ slGo (s.drop i) (f.drop i) (q.drop i) = slGo s f q) s.length ?_ ?_
        · exact ⟨rfl, 0, rfl, Nat.zero_le _, rfl, rfl, rfl, rfl, rfl, by simp⟩
        · rintro m s1 H1 ⟨rfl, i, hm, hi, g1, g2, g3, g4, g5, hgo⟩
          simp only [cut_cons, cut_nil, g1, g2, g3, g4, g5]
          clear g1 g2 g3 g4 g5 hlen hlen2 hlen3
          have hi0 : (0 : Int) ≤ i := Int.natCast_nonneg i
          have hw1 : w ((i : Int) + 1) = ((i + 1 : Nat) : Int) := w_id (by omega)
          have hd : i < s.length → s.drop i = nth s i :: s.drop (i + 1) := fun h => drop_nth s i h
          have hd2 : i < s.length → f.drop i = nth f i :: f.drop (i + 1) := fun h => drop_nth f i (by have := h1h.out; omega)
          have hd3 : i < s.length → q.drop i = nth q i :: q.drop (i + 1) := fun h => drop_nth q i (by have := h2h.out; omega)
          have hnil : ¬ i < s.length → s.drop i = [] := fun h => List.drop_of_length_le (by omega)
          replace hgo := Hide.mk hgo
          replace hd := Hide.mk hd
          replace hd2 := Hide.mk hd2
          replace hd3 := Hide.mk hd3
          replace hnil := Hide.mk hnil
          repeat' (first | apply goSeq | apply goReg | apply goSeqN | apply goSeqR | apply goSkip | apply goRet | apply goNil | apply goBlock | apply goExit | apply goBlkN | apply goBlkR | apply goBlkE | apply goSeqE | apply goLoopR | apply goLoopE | refine xOp ?_ | refine xOp0 ?_ | refine xYes ?_ | refine xNo ?_ | refine xNoU ?_ | refine xIfT ?_ | refine xIfF ?_ | refine xIf ?_ ?_ | refine xSplit ?_ ?_ | refine xIfQ ?_ ?_ | refine xSplitQ ?_ ?_ | refine xBlkX ?_ | intro _)
          all_goals replace hgo := hgo.out
          all_goals (try simp only [Bool.not_eq_true', decide_eq_false_iff_not, Bool.not_eq_false', decide_eq_true_eq] at *)
          all_goals first
            | (refine goEnd hw (Pre.refl _) (by simp) (by simp [rs160]; exact rfl) rfl ?_; rw [← hgo, hd.out (by assumption), hd2.out (by assumption), hd3.out (by assumption)]; simp [slGo, *]; done)
            | (refine goEnd hw (Pre.refl _) (by simp) (by simp [rs160]; exact rfl) rfl ?_; rw [← hgo, hnil.out (by assumption)]; simp [slGo]; done)
            | (refine goLoopN (s.length - (i + 1)) (by omega) ⟨rfl, i + 1, rfl, by omega, rfl, rfl, rfl, rfl, rfl, ?_⟩; rw [← hgo, hd.out (by assumption), hd2.out (by assumption), hd3.out (by assumption)]; simp only [slGo]; rw [if_neg (by omega)])
      · repeat' (first | apply goSeq | apply goReg | apply goSeqN | apply goSeqR | apply goSkip | apply goRet | apply goNil | apply goBlock | apply goExit | apply goBlkN | apply goBlkR | apply goBlkE | apply goSeqE | apply goLoopR | apply goLoopE | refine xOp ?_ | refine xOp0 ?_ | refine xYes ?_ | refine xNo ?_ | refine xNoU ?_ | refine xIfT ?_ | refine xIfF ?_ | refine xIf ?_ ?_ | refine xSplit ?_ ?_ | refine xIfQ ?_ ?_ | refine xSplitQ ?_ ?_ | refine xBlkX ?_ | intro _)
        · refine goEnd hw (Pre.refl _) (by simp) (by simp [rs160]; exact rfl) rfl ?_
          simp [slicedL, h2]
        · rename_i hc
          simp at hc
          omega
    · repeat' (first | apply goSeq | apply goReg | apply goSeqN | apply goSeqR | apply goSkip | apply goRet | apply goNil | apply goBlock | apply goExit | apply goBlkN | apply goBlkR | apply goBlkE | apply goSeqE | apply goLoopR | apply goLoopE | refine xOp ?_ | refine xOp0 ?_ | refine xYes ?_ | refine xNo ?_ | refine xNoU ?_ | refine xIfT ?_ | refine xIfF ?_ | refine xIf ?_ ?_ | refine xSplit ?_ ?_ | refine xIfQ ?_ ?_ | refine xSplitQ ?_ ?_ | refine xBlkX ?_ | intro _)
      all_goals first
        | (refine goEnd hw (Pre.refl _) (by simp) (by simp [rs160]; exact rfl) rfl ?_; simp [slicedL, h1]; done)
        | (rename_i u1 u2; exfalso; have : (f.length : Int) = s.length := by simpa using u1
           omega)
  · cases hv
@[simp] theorem F160_at (a b c : AV) (H : Hp) : F160 [a, b, c] H = (ints H a).bind fun s => (ints H b).bind fun f => (ints H c).map fun q => .int .i64 (slicedL s f q) := rfl
/-- A slice of a tensor; a: how its shape is made. -/
def sliceT (p : List Int × List Int) (fr sz : List Int) (a : Tr) : Tr :=
  if tOK p = true then (if slicedL p.1 fr sz = 0 then okTn a (trF (madeL (fun at1 => atT p (addL at1 fr)) sz)) else zeroT (slicedL p.1 fr sz)) else zeroT 13
theorem slicedL_len {s f q : List Int} (h : slicedL s f q = 0) : f.length = s.length ∧ q.length = s.length := by
  unfold slicedL at h
  split at h
  · omega
  · rename_i h1
    exact ⟨Decidable.byContradiction fun e => h1 (.inl e), Decidable.byContradiction fun e => h1 (.inr e)⟩
def F134 (args : List AV) (H : Hp) : Option (AV × Hp) := match args with
  | [t, f, z] => (tens H t).bind fun p => (ints H f).bind fun fr => (ints H z).bind fun sz => if notMt z = true then some (mk (sliceT p fr sz (clT z sz)) H) else none
  | _ => none
set_option maxHeartbeats 2000000 in
theorem snd134 : Sound Try.prog 134 (FSem.eff F134).run := by
  refine sound_of hT (EOK_cons snd91 (EOK_cons snd138 (EOK_cons snd160 (EOK_nil _)))) mixed A134 Try.func134 hb134 (by kernel_rfl) (by kernel_rfl) (by kernel_rfl) (by kernel_rfl) sh134 3 (by kernel_rfl) rs134 hr134 ?_
  intro args H r H' hw h
  have hv : F134 args H = some (r, H') := h
  clear h
  unfold F134 at hv
  split at hv
  · rename_i t f z
    obtain ⟨⟨s, d⟩, ht, hv⟩ := Option.bind_eq_some_iff.1 hv
    obtain ⟨fr, hf, hv⟩ := Option.bind_eq_some_iff.1 hv
    obtain ⟨sz, hz, hv⟩ := Option.bind_eq_some_iff.1 hv
    split at hv
    rotate_left
    · cases hv
    rename_i hmt
    have hvv := Hide.mk (Option.some.inj hv)
    clear hv
    obtain ⟨x, y, rfl, hx, hy⟩ := tens_some ht
    simp only at hx hy
    -- boxes
    have hbx := abox_agg H (ints_one' hx) (ints_one' hy)
    have x0 : Ext H (H.new [x, y]) := (Ext.refl hw).new _
    have a0 := new_at H [x, y]
    have hv0 : H.c < (H.new [x, y]).c := Nat.lt_succ_self _
    generalize hH0 : H.new [x, y] = H0 at *
    generalize hp0 : H.bs.length = p0 at *
    generalize hq0 : H.c = q0 at *
    have hfx := abox_one H0 (ints_one' hf)
    have x1 : Ext H0 (H0.new [f]) := (Ext.refl x0.wf).new _
    have a1 := new_at H0 [f]
    have hv1 : H0.c < (H0.new [f]).c := Nat.lt_succ_self _
    generalize hH1 : H0.new [f] = H1 at *
    generalize hp1 : H0.bs.length = p1 at *
    generalize hq1 : H0.c = q1 at *
    have x2 : Ext H1 (H1.new [.nilS, .nilS]) := (Ext.refl x1.wf).new _
    have a2 := new_at H1 [.nilS, .nilS]
    have hv2 : H1.c < (H1.new [AV.nilS, AV.nilS]).c := Nat.lt_succ_self _
    generalize hH2 : H1.new [.nilS, .nilS] = H2 at *
    generalize hp2 : H1.bs.length = p2 at *
    generalize hq2 : H1.c = q2 at *
    have x02 : Ext H H2 := (x0.trans x1).trans x2
    have b0 := x2.pre.at (x1.pre.at a0)
    have b1 := x2.pre.at a1
    have l1 := ld40 b0
    have l2 := ld22 b0 0
    have l3 := ld22 b1 0
    simp only [List.getElem?_cons_zero] at l2 l3
    have ht2 := tens_ext x02.pre ht
    have hf2 := ints_ext x02.pre hf
    have hz2 := ints_ext x02.pre hz
    have hs2 := ints_ext x02.pre hx
    have hHc : H.c ≤ q2 := by omega
    have hwH2 := x02.wf
    refine ⟨rfl, go ?_⟩
    unfold c134
    simp only [argSl]
    replace ht := Hide.mk ht
    replace hz := Hide.mk hz
    replace x0 := Hide.mk x0
    replace x1 := Hide.mk x1
    replace x2 := Hide.mk x2
    replace x02 := Hide.mk x02
    replace b0 := Hide.mk b0
    replace b1 := Hide.mk b1
    clear a0 a1 hf hx hy
    rcases hok : tOK (s, d) with _ | _
    · have st := st40 (x := .nilS) (y := .nilS) a2 rfl rfl
      have lr := ld40 (at_put_same (k' := ⟨q2, [.nilS, .nilS], true, true⟩) a2 rfl)
      have hp := put_ext (cs := [.nilS, .nilS]) hw x02.out hHc a2
      replace hp := Hide.mk hp
      replace a2 := Hide.mk a2
      repeat' (first | apply goSeq | apply goReg | apply goSeqN | apply goSeqR | apply goSkip | apply goRet | apply goNil | apply goBlock | apply goExit | apply goBlkN | apply goBlkR | apply goBlkE | apply goSeqE | apply goLoopR | apply goLoopE | refine xOp ?_ | refine xOp0 ?_ | refine xYes ?_ | refine xNo ?_ | refine xNoU ?_ | refine xIfT ?_ | refine xIfF ?_ | refine xIf ?_ ?_ | refine xSplit ?_ ?_ | refine xIfQ ?_ ?_ | refine xSplitQ ?_ ?_ | refine xBlkX ?_ | intro _)
      refine goEndR (vs := [.agg [.nilS, .nilS], .int .i64 13]) (bs := []) (d := H.c) (t := zeroT 13) hw hp.out.pre (rep_zero _ _ _) (Fresh.nil _ _) (by simp) (by simp [rs134, lr]) rfl ?_
      rw [← hvv.out]; simp [sliceT, hok]
    · by_cases hsl : slicedL s fr sz = 0
      · obtain ⟨hl1, hl2⟩ := slicedL_len hsl
        have hs4 : s.length ≤ 4 := by
          have : shapeOK s = true := by simp [tOK] at hok; exact hok.1
          exact (shapeOK_rng this).1
        have hcb : cbF H2 (.func 161 [.ptr p1 q1 0, .ptr p0 q0 0]) sz.length = some (fun at1 => atT (s, d) (addL at1 fr)) := by
          show (aload T 22 (.ptr p1 q1 0) H2).bind _ = _
          rw [l3, Option.bind_some, hf2, Option.bind_some, l1, Option.bind_some, ht2, Option.bind_some, if_pos (by omega)]
        have e138 : F138 [z, .func 161 [.ptr p1 q1 0, .ptr p0 q0 0]] H2 = some (mk (.agg [clT z sz, trF (madeL (fun at1 => atT (s, d) (addL at1 fr)) sz)]) H2) := by
          show (ints H2 z).bind _ = _
          rw [hz2, Option.bind_some, hcb, Option.bind_some, if_pos ⟨hmt, by omega⟩]
        obtain ⟨bs, r1, f1, x3, t3⟩ := mk_tens (H := H2) hwH2 (a := clT z sz) (b := trF (madeL (fun at1 => atT (s, d) (addL at1 fr)) sz)) (clT_is hz2) (.inr (.inl rfl)) (by omega) (by rw [madeL_len]; have := sizeOf_le sz; omega)
        have hres : sliceT (s, d) fr sz (clT z sz) = okTn (clT z sz) (trF (madeL (fun at1 => atT (s, d) (addL at1 fr)) sz)) := by simp [sliceT, hok, hsl]
        replace hvv := hvv.out
        rw [hres] at hvv
        replace hvv := Hide.mk hvv
        generalize madeL (fun at1 => atT (s, d) (addL at1 fr)) sz = D at *
        generalize hr1 : mk (.agg [clT z sz, trF D]) H2 = tt at *
        obtain ⟨tv, H3⟩ := tt
        simp only at r1 f1 x3 t3
        obtain ⟨shv, dav, b1', b2', rfl, rs1, rd1, hbs⟩ := rep_agg2.1 r1
        obtain ⟨_, _, hag, hsi, hdi⟩ := tens_some t3
        cases hag
        have hone := ints_one' hsi
        have hone2 := ints_one' hdi
        have a3 := x3.pre.at a2
        have st := st40 (x := shv) (y := dav) a3 hone hone2
        have lr := ld40 (at_put_same (k' := ⟨q2, [shv, dav], true, true⟩) a3 rfl)
        have hkp : ∀ b' ver', ver' ≠ q2 → Keeps H3 (H3.put p2 ⟨q2, [shv, dav], true, true⟩) b' ver' := fun b' ver' h => Keeps.put a3 h
        have hp := put_ext (cs := [shv, dav]) hw (x02.out.trans x3) hHc a3
        replace hp := Hide.mk hp
        replace a2 := Hide.mk a2
        replace a3 := Hide.mk a3
        replace r1 := Hide.mk r1
        replace f1 := Hide.mk f1
        replace hkp := Hide.mk hkp
        replace x3 := Hide.mk x3
        clear rs1 rd1 hsi hdi t3 hcb hr1 hres hl1 hl2
        repeat' (first | apply goSeq | apply goReg | apply goSeqN | apply goSeqR | apply goSkip | apply goRet | apply goNil | apply goBlock | apply goExit | apply goBlkN | apply goBlkR | apply goBlkE | apply goSeqE | apply goLoopR | apply goLoopE | refine xOp ?_ | refine xOp0 ?_ | refine xYes ?_ | refine xNo ?_ | refine xNoU ?_ | refine xIfT ?_ | refine xIfF ?_ | refine xIf ?_ ?_ | refine xSplit ?_ ?_ | refine xIfQ ?_ ?_ | refine xSplitQ ?_ ?_ | refine xBlkX ?_ | intro _)
        refine goEndR (vs := [.agg [shv, dav], .int .i64 0]) (bs := bs) (d := H3.c) (t := okTn (clT z sz) (trF D)) hw hp.out.pre ?_ ?_ (by simp) (by simp [rs134, lr]) rfl hvv.out
        · unfold okTn
          show Rep _ _ _ (AV.tup [_, _]) _
          rw [rep_tupI]
          have := Rep.keep _ (fun p hp => hkp.out p.1 p.2 (by have := (f1.out.2 p hp).1; omega)) r1.out
          exact rep_down _ (c0 := 0) (by simp [okT, okTs, (clT_is hz.out).ok, okT_F]) (Nat.zero_le _) (by omega) this
        · exact f1.out.wide (by omega) (Nat.le_refl _)
      · have st := st40 (x := .nilS) (y := .nilS) a2 rfl rfl
        have lr := ld40 (at_put_same (k' := ⟨q2, [.nilS, .nilS], true, true⟩) a2 rfl)
        have hp := put_ext (cs := [.nilS, .nilS]) hw x02.out hHc a2
        replace hp := Hide.mk hp
        replace a2 := Hide.mk a2
        repeat' (first | apply goSeq | apply goReg | apply goSeqN | apply goSeqR | apply goSkip | apply goRet | apply goNil | apply goBlock | apply goExit | apply goBlkN | apply goBlkR | apply goBlkE | apply goSeqE | apply goLoopR | apply goLoopE | refine xOp ?_ | refine xOp0 ?_ | refine xYes ?_ | refine xNo ?_ | refine xNoU ?_ | refine xIfT ?_ | refine xIfF ?_ | refine xIf ?_ ?_ | refine xSplit ?_ ?_ | refine xIfQ ?_ ?_ | refine xSplitQ ?_ ?_ | refine xBlkX ?_ | intro _)
        refine goEndR (vs := [.agg [.nilS, .nilS], .int .i64 (slicedL s fr sz)]) (bs := []) (d := H.c) (t := zeroT (slicedL s fr sz)) hw hp.out.pre (rep_zero _ _ _) (Fresh.nil _ _) (by simp) (by simp [rs134, lr]) rfl ?_
        rw [← hvv.out]; simp [sliceT, hok, hsl]
  · cases hv
/- Walks: a device's part. -/
theorem clT_S (H : Hp) (l : List Int) : clT (mkS H l).1 l = trS l := by
  unfold mkS
  by_cases h : l = []
  · subst h; simp [clT]
  · rw [if_neg h]; simp [clT, trC, h]
theorem notMt_S (H : Hp) (l : List Int) : notMt (mkS H l).1 = true := by
  unfold mkS
  split <;> rfl
/-- A device's part. -/
noncomputable def partT (p : List Int × List Int) (sz sp : List Int) (d : Int) : Tr :=
  if mayL p sz sp = 0 then (if d < 0 ∨ devs sz ≤ d then zeroT 23 else sliceT p (fromL p.1 sz sp d) (sizeL p.1 sz sp d) (trS (sizeL p.1 sz sp d))) else zeroT (mayL p sz sp)
noncomputable def F81 (args : List AV) (H : Hp) : Option (AV × Hp) := match args with
  | [t, a, b, .int .i64 d] => (tens H t).bind fun p => (ints H a).bind fun sz => (ints H b).map fun sp => mk (partT p sz sp d) H
  | _ => none
theorem sliceT_ok (c : Nat) (p : List Int × List Int) (fr sz : List Int) (a : Tr) (l : List Int) (ha : isL a l) : okT c (sliceT p fr sz a) = true := by
  unfold sliceT
  split
  · split
    · simp [okTn, okT, okTs, ha.ok, okT_F, old]
    · simp [zeroT, okT, okTs, old]
  · simp [zeroT, okT, okTs, old]
theorem mk_tupI (H : Hp) (a : Tr) (e : Int) : mk (.tup [a, .at (.int .i64 e)]) H = (.tup [(mk a H).1, .int .i64 e], (mk a H).2) := by simp [mk, mks]
theorem repI_one {c : Nat} {H : Hp} {t : Tr} {x : AV} {bs : List (Nat × Nat)} {l : List Int} (ht : isL t l ∨ t = .at .nilS) (h : Rep c H t x bs) : x.one = true := by
  have hF : ∀ {l : List Int}, Rep c H (trF l) x bs → x.one = true := fun h => by obtain ⟨b, ver, rfl, _⟩ := rep_F.1 h; rfl
  have hS : ∀ {l : List Int}, Rep c H (trS l) x bs → x.one = true := fun h => by rcases rep_S.1 h with ⟨_, rfl, _⟩ | ⟨b, ver, rfl, _⟩ <;> rfl
  rcases ht with (rfl | rfl | rfl) | rfl
  · exact hS h
  · exact hF h
  · unfold trC at h
    split at h
    · exact hF h
    · exact hS h
  · simp only [Rep] at h
    rw [h.1]; rfl
theorem sliceT_rep {c : Nat} {H : Hp} {p : List Int × List Int} {fr sz : List Int} {a : Tr} {l : List Int} (ha : isL a l) {v : AV} {bs : List (Nat × Nat)} (h : Rep c H (sliceT p fr sz a) v bs) :
    ∃ (x y : AV) (e : Int), v = .tup [.agg [x, y], .int .i64 e] ∧ x.one = true ∧ y.one = true := by
  have key : ∀ (a b : Tr) (e : Int) {l m : List Int}, (isL a l ∨ a = .at .nilS) → (isL b m ∨ b = .at .nilS) → Rep c H (.tup [.agg [a, b], .at (.int .i64 e)]) v bs → ∃ (x y : AV) (e : Int), v = .tup [.agg [x, y], .int .i64 e] ∧ x.one = true ∧ y.one = true := by
    intro a b e l m ha hb h
    have h0 := h
    simp only [Rep, Reps] at h
    obtain ⟨vs, rfl, v1, vs', b1, b2, rfl, ⟨ws, rfl, x, ws', b3, b4, rfl, h1, ⟨y, ws'', b5, b6, rfl, h2, ⟨rfl, rfl⟩, rfl⟩, rfl⟩, ⟨w1, vs'', b7, b8, rfl, ⟨rfl, rfl, _⟩, ⟨rfl, rfl⟩, rfl⟩, rfl⟩ := h
    exact ⟨x, y, e, rfl, repI_one ha h1, repI_one hb h2⟩
  unfold sliceT at h
  split at h
  · split at h
    · exact key _ _ _ (.inl ha) (.inl (.inr (.inl rfl))) h
    · exact key _ _ _ (l := []) (m := []) (.inr rfl) (.inr rfl) h
  · exact key _ _ _ (l := []) (m := []) (.inr rfl) (.inr rfl) h
set_option maxHeartbeats 2000000 in
theorem snd81 : Sound Try.prog 81 (FSem.eff F81).run := by
  refine sound_of hT (EOK_cons snd21 (EOK_cons snd22 (EOK_cons snd87 (EOK_cons snd88 (EOK_cons snd134 (EOK_nil _)))))) mixed A81 Try.func81 hb81 (by kernel_rfl) (by kernel_rfl) (by kernel_rfl) (by kernel_rfl) sh81 4 (by kernel_rfl) rs81 hr81 ?_
  intro args H r H' hw h
  have hv : F81 args H = some (r, H') := h
  clear h
  unfold F81 at hv
  split at hv
  · rename_i t a b dd
    obtain ⟨⟨s, d⟩, ht, hv⟩ := Option.bind_eq_some_iff.1 hv
    obtain ⟨sz, hsz, hv⟩ := Option.bind_eq_some_iff.1 hv
    obtain ⟨sp, hsp, hv⟩ := Option.map_eq_some_iff.1 hv
    have hvv := Hide.mk hv
    clear hv
    obtain ⟨x, y, rfl, hx, hy⟩ := tens_some ht
    simp only at hx hy
    have hbx := abox_agg H (ints_one' hx) (ints_one' hy)
    have x0 : Ext H (H.new [x, y]) := (Ext.refl hw).new _
    have a0 := new_at H [x, y]
    have hv0 : H.c < (H.new [x, y]).c := Nat.lt_succ_self _
    generalize hH0 : H.new [x, y] = H0 at *
    generalize hp0 : H.bs.length = p0 at *
    generalize hq0 : H.c = q0 at *
    have x1 : Ext H0 (H0.new [.nilS, .nilS]) := (Ext.refl x0.wf).new _
    have a1 := new_at H0 [.nilS, .nilS]
    have hv1 : H0.c < (H0.new [AV.nilS, AV.nilS]).c := Nat.lt_succ_self _
    generalize hH1 : H0.new [.nilS, .nilS] = H1 at *
    generalize hp1 : H0.bs.length = p1 at *
    generalize hq1 : H0.c = q1 at *
    have x01 : Ext H H1 := x0.trans x1
    have b0 := x1.pre.at a0
    have l1 := ld40 b0
    have l2 := ld22 b0 0
    simp only [List.getElem?_cons_zero] at l2
    have ht1 := tens_ext x01.pre ht
    have hs1 := ints_ext x01.pre hx
    have hsz1 := ints_ext x01.pre hsz
    have hsp1 := ints_ext x01.pre hsp
    have hHc : H.c ≤ q1 := by omega
    refine ⟨rfl, go ?_⟩
    unfold c81
    simp only [argSl]
    replace x0 := Hide.mk x0
    replace x1 := Hide.mk x1
    replace x01 := Hide.mk x01
    replace b0 := Hide.mk b0
    clear a0 ht hx hy hsz hsp
    have zero : ∀ e : Int, partT (s, d) sz sp dd = zeroT e → mk (zeroT e) H = (r, H') := fun e h => by rw [← h]; exact hvv.out
    by_cases hm : mayL (s, d) sz sp = 0
    · by_cases hdd : dd < 0 ∨ devs sz ≤ dd
      · have st := st40 (x := .nilS) (y := .nilS) a1 rfl rfl
        have lr := ld40 (at_put_same (k' := ⟨q1, [.nilS, .nilS], true, true⟩) a1 rfl)
        have hp := put_ext (cs := [.nilS, .nilS]) hw x01.out hHc a1
        replace hp := Hide.mk hp
        replace a1 := Hide.mk a1
        have hz := zero 23 (by simp [partT, hm, hdd])
        replace hz := Hide.mk hz
        clear zero
        by_cases hd0 : dd < 0
        · clear hdd
          repeat' (first | apply goSeq | apply goReg | apply goSeqN | apply goSeqR | apply goSkip | apply goRet | apply goNil | apply goBlock | apply goExit | apply goBlkN | apply goBlkR | apply goBlkE | apply goSeqE | apply goLoopR | apply goLoopE | refine xOp ?_ | refine xOp0 ?_ | refine xYes ?_ | refine xNo ?_ | refine xNoU ?_ | refine xIfT ?_ | refine xIfF ?_ | refine xIf ?_ ?_ | refine xSplit ?_ ?_ | refine xIfQ ?_ ?_ | refine xSplitQ ?_ ?_ | refine xBlkX ?_ | intro _)
          exact goEndR (vs := [.agg [.nilS, .nilS], .int .i64 23]) (bs := []) (d := H.c) (t := zeroT 23) hw hp.out.pre (rep_zero _ _ _) (Fresh.nil _ _) (by simp) (by simp [rs81, lr]) rfl hz.out
        · have hd1 : devs sz ≤ dd := by omega
          clear hdd
          repeat' (first | apply goSeq | apply goReg | apply goSeqN | apply goSeqR | apply goSkip | apply goRet | apply goNil | apply goBlock | apply goExit | apply goBlkN | apply goBlkR | apply goBlkE | apply goSeqE | apply goLoopR | apply goLoopE | refine xOp ?_ | refine xOp0 ?_ | refine xYes ?_ | refine xNo ?_ | refine xNoU ?_ | refine xIfT ?_ | refine xIfF ?_ | refine xIf ?_ ?_ | refine xSplit ?_ ?_ | refine xIfQ ?_ ?_ | refine xSplitQ ?_ ?_ | refine xBlkX ?_ | intro _)
          exact goEndR (vs := [.agg [.nilS, .nilS], .int .i64 23]) (bs := []) (d := H.c) (t := zeroT 23) hw hp.out.pre (rep_zero _ _ _) (Fresh.nil _ _) (by simp) (by simp [rs81, lr]) rfl hz.out
      · have hd0 : ¬ dd < 0 := fun h => hdd (.inl h)
        have hd1 : ¬ devs sz ≤ dd := fun h => hdd (.inr h)
        have hres : partT (s, d) sz sp dd = sliceT (s, d) (fromL s sz sp dd) (sizeL s sz sp dd) (trS (sizeL s sz sp dd)) := by simp [partT, hm, hdd]
        rw [hres] at hvv
        clear zero hdd hres
        -- where it begins
        have e22 : F22 [x, a, b, .int .i64 dd] H1 = some (mkS H1 (fromL s sz sp dd)) := by
          simp only [F22, hs1, hsz1, hsp1, Option.bind_some, Option.map_some]
        have x2 := mkS_ext x01.out.wf (fromL s sz sp dd)
        have hlf := fromL_len s sz sp dd
        have hfr := ints_of_own (mkS_own H1 (fromL s sz sp dd)) (by omega)
        generalize hFR : fromL s sz sp dd = FR at *
        generalize hr2 : mkS H1 FR = r2 at *
        obtain ⟨fv, H2⟩ := r2
        simp only at x2 hfr
        have b02 := x2.pre.at b0.out
        have l1' := ld40 b02
        have l2' := ld22 b02 0
        simp only [List.getElem?_cons_zero] at l2'
        -- how long it is
        have e21 : F21 [x, a, b, .int .i64 dd] H2 = some (mkS H2 (sizeL s sz sp dd)) := by
          have hs2 := ints_ext x2.pre hs1
          have hsz2 := ints_ext x2.pre hsz1
          have hsp2 := ints_ext x2.pre hsp1
          simp only [F21, hs2, hsz2, hsp2, Option.bind_some, Option.map_some]
        have x3 := mkS_ext x2.wf (sizeL s sz sp dd)
        have hlz := sizeL_len s sz sp dd
        have hzi := ints_of_own (mkS_own H2 (sizeL s sz sp dd)) (by omega)
        have hcl := clT_S H2 (sizeL s sz sp dd)
        have hnm := notMt_S H2 (sizeL s sz sp dd)
        generalize hSZ : sizeL s sz sp dd = SZ at *
        generalize hr3 : mkS H2 SZ = r3 at *
        obtain ⟨zv, H3⟩ := r3
        simp only at x3 hzi hcl hnm
        have b03 := x3.pre.at b02
        have l1'' := ld40 b03
        -- cut out
        have ht3 := tens_ext (x2.pre.trans x3.pre) ht1
        have hfr3 := ints_ext x3.pre hfr
        have e134 : F134 [.agg [x, y], fv, zv] H3 = some (mk (sliceT (s, d) FR SZ (trS SZ)) H3) := by
          show (tens H3 _).bind _ = _
          rw [ht3, Option.bind_some, hfr3, Option.bind_some, hzi, Option.bind_some, if_pos hnm, hcl]
        have x03 : Ext H H3 := (x01.out.trans x2).trans x3
        obtain ⟨bs, r1, f1, x4⟩ := mk_rep (sliceT (s, d) FR SZ (trS SZ)) (c0 := 0) x03.wf (Nat.zero_le _) (sliceT_ok 0 _ _ _ _ SZ (.inl rfl))
        obtain ⟨shv, dav, e, htv, hone, hone2⟩ := sliceT_rep (.inl rfl : isL (trS SZ) SZ) r1
        generalize hr4 : mk (sliceT (s, d) FR SZ (trS SZ)) H3 = r4 at *
        obtain ⟨tv, H4⟩ := r4
        simp only at r1 f1 x4 htv
        subst htv
        have a4 := x4.pre.at (x3.pre.at (x2.pre.at a1))
        have st := st40 (x := shv) (y := dav) a4 hone hone2
        have lr := ld40 (at_put_same (k' := ⟨q1, [shv, dav], true, true⟩) a4 rfl)
        have hkp : ∀ b' ver', ver' ≠ q1 → Keeps H4 (H4.put p1 ⟨q1, [shv, dav], true, true⟩) b' ver' := fun b' ver' h => Keeps.put a4 h
        have hp := put_ext (cs := [shv, dav]) hw (x03.trans x4) hHc a4
        have h13 : H1.c ≤ H3.c := Nat.le_trans x2.c x3.c
        have hq1lt : q1 < H1.c := hv1
        replace hp := Hide.mk hp
        replace a1 := Hide.mk a1
        replace a4 := Hide.mk a4
        replace r1 := Hide.mk r1
        replace f1 := Hide.mk f1
        replace hkp := Hide.mk hkp
        replace x03 := Hide.mk x03
        replace b02 := Hide.mk b02
        replace b03 := Hide.mk b03
        clear hfr hzi hcl hnm ht3 hfr3 x2 x3 x4 hr2 hr3 hr4 hlf hlz hs1
        have hFRh := Hide.mk hFR
        have hSZh := Hide.mk hSZ
        clear hFR hSZ
        repeat' (first | apply goSeq | apply goReg | apply goSeqN | apply goSeqR | apply goSkip | apply goRet | apply goNil | apply goBlock | apply goExit | apply goBlkN | apply goBlkR | apply goBlkE | apply goSeqE | apply goLoopR | apply goLoopE | refine xOp ?_ | refine xOp0 ?_ | refine xYes ?_ | refine xNo ?_ | refine xNoU ?_ | refine xIfT ?_ | refine xIfF ?_ | refine xIf ?_ ?_ | refine xSplit ?_ ?_ | refine xIfQ ?_ ?_ | refine xSplitQ ?_ ?_ | refine xBlkX ?_ | intro _)
        apply goDrw
        iterate 16 (apply goTOp; (· (simp [*]; try exact rfl)); (· exact rfl))
        apply goTOp0; (· (simp [*]; try exact rfl)); (· exact rfl)
        apply goTOp; (· (simp [*]; try exact rfl)); (· exact rfl)
        refine goTNil (by simp [again, XG_none, l1, l1', l1'', l2, l2']) ?_
        repeat' (first | apply goSeq | apply goReg | apply goSeqN | apply goSeqR | apply goSkip | apply goRet | apply goNil | apply goBlock | apply goExit | apply goBlkN | apply goBlkR | apply goBlkE | apply goSeqE | apply goLoopR | apply goLoopE | refine xOp ?_ | refine xOp0 ?_ | refine xYes ?_ | refine xNo ?_ | refine xNoU ?_ | refine xIfT ?_ | refine xIfF ?_ | refine xIf ?_ ?_ | refine xSplit ?_ ?_ | refine xIfQ ?_ ?_ | refine xSplitQ ?_ ?_ | refine xBlkX ?_ | intro _)
        refine goEndR (vs := [.agg [shv, dav], .int .i64 e]) (bs := bs) (d := H4.c) (t := sliceT (s, d) FR SZ (trS SZ)) hw hp.out.pre ?_ ?_ (by simp) (by simp [rs81, lr]) rfl hvv.out
        · have := Rep.keep _ (fun p hp => hkp.out p.1 p.2 (by have := (f1.out.2 p hp).1; omega)) r1.out
          exact rep_down _ (c0 := 0) (sliceT_ok 0 _ _ _ _ SZ (.inl rfl)) (Nat.zero_le _) (by omega) this
        · exact f1.out.wide (by omega) (Nat.le_refl _)
    · have st := st40 (x := .nilS) (y := .nilS) a1 rfl rfl
      have lr := ld40 (at_put_same (k' := ⟨q1, [.nilS, .nilS], true, true⟩) a1 rfl)
      have hp := put_ext (cs := [.nilS, .nilS]) hw x01.out hHc a1
      replace hp := Hide.mk hp
      replace a1 := Hide.mk a1
      have hz := zero (mayL (s, d) sz sp) (by simp [partT, hm])
      replace hz := Hide.mk hz
      clear zero
      repeat' (first | apply goSeq | apply goReg | apply goSeqN | apply goSeqR | apply goSkip | apply goRet | apply goNil | apply goBlock | apply goExit | apply goBlkN | apply goBlkR | apply goBlkE | apply goSeqE | apply goLoopR | apply goLoopE | refine xOp ?_ | refine xOp0 ?_ | refine xYes ?_ | refine xNo ?_ | refine xNoU ?_ | refine xIfT ?_ | refine xIfF ?_ | refine xIf ?_ ?_ | refine xSplit ?_ ?_ | refine xIfQ ?_ ?_ | refine xSplitQ ?_ ?_ | refine xBlkX ?_ | intro _)
      exact goEndR (vs := [.agg [.nilS, .nilS], .int .i64 (mayL (s, d) sz sp)]) (bs := []) (d := H.c) (t := zeroT (mayL (s, d) sz sp)) hw hp.out.pre (rep_zero _ _ _) (Fresh.nil _ _) (by simp) (by simp [rs81, lr]) rfl hz.out
  · cases hv
/- Lists of tensors, and of other things of several cells. -/
/-- A list that was made by append: n elements of es cells. -/
def trG (n es : Nat) (cs : List Tr) : Tr := if n = 0 then .at .nilS else .sl n es false cs
theorem reps_app {c : Nat} {H : Hp} : ∀ (l m : List Tr) {vs : List AV} {bs : List (Nat × Nat)}, Reps c H (l ++ m) vs bs ↔ ∃ v1 v2 b1 b2, vs = v1 ++ v2 ∧ bs = b1 ++ b2 ∧ Reps c H l v1 b1 ∧ Reps c H m v2 b2 := by
  intro l
  induction l with
  | nil =>
    intro m vs bs
    simp only [List.nil_append, Reps]
    constructor
    · intro h; exact ⟨[], vs, [], bs, rfl, rfl, ⟨rfl, rfl⟩, h⟩
    · rintro ⟨v1, v2, b1, b2, rfl, rfl, ⟨rfl, rfl⟩, h⟩; exact h
  | cons t l ih =>
    intro m vs bs
    simp only [List.cons_append, Reps]
    constructor
    · rintro ⟨v, vs', b1, b2, rfl, h1, h2, rfl⟩
      obtain ⟨v1, v2, b3, b4, rfl, rfl, h3, h4⟩ := (ih m).1 h2
      exact ⟨v :: v1, v2, b1 ++ b3, b4, rfl, by simp, ⟨v, v1, b1, b3, rfl, h1, h3, rfl⟩, h4⟩
    · rintro ⟨v1, v2, b3, b4, rfl, rfl, ⟨v, vs', b1, b2, rfl, h1, h2, rfl⟩, h4⟩
      exact ⟨v, vs' ++ v2, b1, b2 ++ b4, rfl, h1, (ih m).2 ⟨vs', v2, b2, b4, rfl, rfl, h2, h4⟩, by simp⟩
theorem reps_len {c : Nat} {H : Hp} : ∀ (l : List Tr) {vs : List AV} {bs : List (Nat × Nat)}, Reps c H l vs bs → vs.length = l.length := by
  intro l
  induction l with
  | nil => intro vs bs h; simp only [Reps] at h; rw [h.1]; rfl
  | cons t l ih =>
    intro vs bs h
    simp only [Reps] at h
    obtain ⟨v, vs', b1, b2, rfl, _, h2, _⟩ := h
    simp [ih h2]
theorem rep_app {t e es n : Nat} {ie : TI} {c : Nat} {H : Hp} {cs xt : List Tr} {v : AV} {xs : List AV} {bs bx : List (Nat × Nat)} (hD : T.d t = .slice e) (hT : T e = some ie) (hes : ie.size = es) (hb0 : ie.bytes ≠ 0) (hw : Wf H) (hc : c ≤ H.c)
    (h : Rep c H (trG n es cs) v bs) (hx : Reps c H xt xs bx) (hcs : cs.length = n * es) (hxl : xs.length = es) (he0 : es ≠ 0) (hl : (n + 1) * ie.bytes ≤ maxBytes) (hnd : bs.Nodup) (hdis : ∀ p ∈ bs, p ∉ bx) :
    ∃ v' H' bs' bk b' ver', aapp T false t t v (.sl H.bs.length H.c 0 1 es true) (H.new xs) = some (v', H') ∧ Rep c H' (trG (n + 1) es (cs ++ xt)) v' bs' ∧ bs' = bk ++ bx ++ [(b', ver')] ∧ (∀ p ∈ bk, p ∈ bs) ∧ bk.Nodup ∧ H.c ≤ ver' ∧ ver' < H'.c ∧ (∀ b1 v1, (b1, v1) ∉ bs → Keeps H H' b1 v1) ∧ (∀ H0, Wf H0 → Ext H0 H → H0.c ≤ c → Ext H0 H') := by
  have hsx : slCells (H.new xs) (.sl H.bs.length H.c 0 1 es true) = some (1, xs) := by
    simp only [slCells, new_at]
    rw [if_pos (by omega), List.drop_zero, List.take_of_length_le (by omega)]
  by_cases hn : n = 0
  · subst hn
    have hcs0 : cs = [] := List.eq_nil_of_length_eq_zero (by simpa using hcs)
    subst hcs0
    simp only [trG, if_true, Rep] at h
    obtain ⟨rfl, rfl, _⟩ := h
    refine ⟨.sl (H.new xs).bs.length (H.new xs).c 0 1 es false, (H.new xs).new xs, bx ++ [((H.new xs).bs.length, (H.new xs).c)], [], (H.new xs).bs.length, (H.new xs).c, ?_, ?_, by simp, by simp, by simp, Nat.le_succ _, Nat.lt_succ_self _, ?_, ?_⟩
    · simp only [aapp, hD, hT, Option.bind_some, aappend, hsx, hes]
      rw [if_neg (by simp [hxl]), if_neg (by simp), if_pos (by refine ⟨by simpa using hl, hb0⟩)]
    · simp only [trG, Nat.zero_add, Nat.one_ne_zero, if_false, List.nil_append, Rep]
      exact ⟨_, _, xs, bx, rfl, Nat.le_trans hc (Nat.le_succ _), new_at _ _, (hx.ext (Pre.new (Pre.refl _) _)).ext (Pre.new (Pre.refl _) _), rfl⟩
    · intro b1 v1 _ k hk
      exact at_new (at_new hk _) _
    · intro H0 _ he _
      exact (he.new _).new _
  · simp only [trG, if_neg hn, Rep] at h
    obtain ⟨b, ver, vs, bk, rfl, hv, hk, hr, rfl⟩ := h
    have hvl := reps_len _ hr
    have hk' := at_new hk xs
    obtain ⟨g1, g2⟩ := Hp.at_some hk'
    have hb := (List.getElem?_eq_some_iff.1 g1).1
    have hnd' := List.nodup_append.1 hnd
    have hkeep : ∀ b1 v1, (b1, v1) ≠ (b, ver) → Keeps H (⟨(H.new xs).bs.set b ⟨(H.new xs).c, vs ++ xs, true, true⟩, (H.new xs).c + 1⟩ : Hp) b1 v1 := by
      intro b1 v1 hne k hk1
      have hk2 := at_new hk1 xs
      have hbb : b1 ≠ b := by
        rintro rfl
        obtain ⟨q1, q2⟩ := Hp.at_some hk2
        rw [g1] at q1
        cases q1
        exact hne (by rw [← q2])
      have : (⟨(H.new xs).bs.set b ⟨(H.new xs).c, vs ++ xs, true, true⟩, (H.new xs).c + 1⟩ : Hp).at b1 v1 = (H.new xs).at b1 v1 := by
        simp only [Hp.at]; rw [List.getElem?_set_ne (fun e => hbb e.symm)]
      rw [this]; exact hk2
    refine ⟨.sl b (H.new xs).c 0 (n + 1) es false, ⟨(H.new xs).bs.set b ⟨(H.new xs).c, vs ++ xs, true, true⟩, (H.new xs).c + 1⟩, bk ++ bx ++ [(b, (H.new xs).c)], bk, b, (H.new xs).c, ?_, ?_, rfl, by intro p hp; simp [hp], hnd'.1, Nat.le_succ _, Nat.lt_succ_self _, ?_, ?_⟩
    · simp only [aapp, hD, hT, Option.bind_some, aappend, hsx, hk', hes]
      rw [if_neg (by simp [hxl]), if_neg (by simp), if_neg (by simp only [ne_eq, not_true_eq_false, false_or]; rw [hvl, hcs]; omega), if_neg (by simp), if_pos (by simp [hvl, hcs])]
      simp
    · simp only [trG, if_neg (Nat.succ_ne_zero n), Rep]
      refine ⟨b, (H.new xs).c, vs ++ xs, bk ++ bx, rfl, Nat.le_trans hc (Nat.le_succ _), by simp [Hp.at, hb], ?_, rfl⟩
      refine (reps_app cs xt).2 ⟨vs, xs, bk, bx, rfl, rfl, ?_, ?_⟩
      · refine Reps.keep cs (fun p hp => hkeep p.1 p.2 ?_) hr
        intro e
        exact hnd'.2.2 p hp (b, ver) (by simp) e
      · refine Reps.keep xt (fun p hp => hkeep p.1 p.2 ?_) hx
        intro e
        exact hdis (b, ver) (by simp) (by rw [← e]; exact hp)
    · intro b1 v1 hne
      exact hkeep b1 v1 fun e => hne (by rw [e]; simp)
    · intro H0 hw0 he hc0
      have he1 := he.new xs
      refine ⟨?_, ?_, Nat.le_succ_of_le he1.c⟩
      · intro i k hi
        have h1 := he1.pre i k hi
        show ((H.new xs).bs.set b _)[i]? = some k
        by_cases hib : b = i
        · subst hib
          rw [g1] at h1
          cases h1
          exact absurd (hw0 b _ hi) (by show ¬ ver < H0.c; omega)
        · rw [List.getElem?_set_ne hib]; exact h1
      · intro i k hi
        by_cases hib : b = i
        · subst hib
          simp [hb] at hi
          subst hi
          exact Nat.lt_succ_self _
        · simp only [List.getElem?_set_ne hib] at hi
          exact Nat.lt_succ_of_lt (he1.wf i k hi)
/-- A list of tensors. -/
def cellsT (L : List (Tr × Tr)) : List Tr := L.flatMap fun p => [p.1, p.2]
def trTs (L : List (Tr × Tr)) : Tr := trG L.length 2 (cellsT L)
theorem cellsT_len (L : List (Tr × Tr)) : (cellsT L).length = L.length * 2 := by
  induction L with
  | nil => rfl
  | cons p L ih => simp [cellsT] at ih ⊢; omega
theorem trTs_app (L : List (Tr × Tr)) (a b : Tr) : trTs (L ++ [(a, b)]) = trG (L.length + 1) 2 (cellsT L ++ [a, b]) := by
  simp [trTs, cellsT]
def abs45 (v : AV) (H : Hp) : Option (AV × Hp) := (afill (fun j => some (j * 2, 2)) [.nilS, .nilS] [(0, v)]).map fun cs => (.sl H.bs.length H.c 0 1 2 true, H.new cs)
theorem abs45_agg {x y : AV} (H : Hp) (hx : x.one = true) (hy : y.one = true) : abs45 (.agg [x, y]) H = some (.sl H.bs.length H.c 0 1 2 true, H.new [x, y]) := by
  simp [abs45, afill, AV.cells, hx, hy, setAll]
@[simp] theorem xdo_bs45 {E : Env} {sh : Bool} {s : Sl} {H : Hp} (x : Operand) : xdo E T sh (.buildSlice 45 1 #[(0, x)]) s H = abs45 (ev s x) H := by
  simp [xdo, aop, D45, T40, rep, abs45]
/- Plain laws: a device's part lies in its tensor. -/
def cutOK (n k c : Int) : Bool := decide (0 ≤ (cut n k c).1 ∧ (cut n k c).1 ≤ n ∧ 0 ≤ w ((cut n k c).2 - (cut n k c).1) ∧ w ((cut n k c).2 - (cut n k c).1) ≤ w (n - (cut n k c).1))
theorem cut_fin : ((List.range 33).all fun n => (List.range 9).all fun k => (List.range k).all fun c => cutOK n k c) = true := by decide +kernel
theorem cut_ok {n k c : Int} (hn : 0 ≤ n ∧ n ≤ 32) (hk : k ≤ 8) (hc : 0 ≤ c ∧ c < k) : cutOK n k c = true := by
  obtain ⟨n, rfl⟩ : ∃ m : Nat, n = m := ⟨n.toNat, by omega⟩
  obtain ⟨k, rfl⟩ : ∃ m : Nat, k = m := ⟨k.toNat, by omega⟩
  obtain ⟨c, rfl⟩ : ∃ m : Nat, c = m := ⟨c.toNat, by omega⟩
  have h1 := List.all_eq_true.1 cut_fin n (by simp; omega)
  have h2 := List.all_eq_true.1 h1 k (by simp; omega)
  exact List.all_eq_true.1 h2 c (by simp; omega)
theorem atW_in (sz : List Int) (hpos : ∀ j : Nat, j < sz.length → 1 ≤ nth sz j) : ∀ (n : Nat) (d : Int) (out : List Int), n ≤ sz.length → out.length = sz.length → 0 ≤ d → d < 9223372036854775808 → (∀ j : Nat, n ≤ j → j < sz.length → 0 ≤ nth out j ∧ nth out j < nth sz j) → ∀ j : Nat, j < sz.length → 0 ≤ nth (atW sz n d out) j ∧ nth (atW sz n d out) j < nth sz j := by
  intro n
  induction n with
  | zero => intro d out _ _ _ _ h j hj; exact h j (by omega) hj
  | succ n ih =>
    intro d out hn hl h0 hd h j hj
    simp only [atW]
    have hp := hpos n (by omega)
    have h1 : 0 ≤ d.tdiv (nth sz n) := Int.tdiv_nonneg h0 (by omega)
    have h2 : d.tdiv (nth sz n) ≤ d := Int.tdiv_le_self _ h0
    rw [w_id (x := d.tdiv (nth sz n)) (by omega)]
    refine ih _ _ (by omega) (by simp [hl]) h1 (by omega) (fun i h1 h2 => ?_) j hj
    by_cases hi : i = n
    · subst hi
      have : nth (out.set i (d.tmod (nth sz i))) i = d.tmod (nth sz i) := by
        simp only [nth, Int.toNat_natCast, List.getD_eq_getElem?_getD]
        rw [List.getElem?_set_self (by rw [hl]; omega)]; rfl
      rw [this]
      exact tmod_range d _ hp h0
    · have : nth (out.set n (d.tmod (nth sz n))) i = nth out i := by
        simp only [nth, Int.toNat_natCast, List.getD_eq_getElem?_getD]
        rw [List.getElem?_set_ne (fun e => hi e.symm)]
      rw [this]
      exact h i (by omega) h2
theorem prodW_pos_le : ∀ (l : List Int) (n : Int), meshGo n l = true → prodW n l ≤ 8 := by
  intro l
  induction l with
  | nil => intro n h; simpa [meshGo, prodW] using h
  | cons k l ih =>
    intro n h
    simp only [meshGo] at h
    split at h
    · cases h
    · exact ih _ h
theorem devs_le (l : List Int) : devs l ≤ 8 := by
  unfold devs
  split
  · rename_i h
    unfold meshOK at h
    split at h
    · cases h
    · exact prodW_pos_le l 1 h
  · omega
theorem pow8 (k : Nat) (h : k ≤ 3) : ((8 ^ k : Nat) : Int) ≤ 512 := by
  have : 8 ^ k ≤ 8 ^ 3 := Nat.pow_le_pow_right (by decide) h
  have h4 : (8 : Nat) ^ 3 = 512 := by decide
  omega
theorem prodW_pos : ∀ (l : List Int) (n : Int) (k : Nat), k + l.length ≤ 3 → (∀ j : Nat, j < l.length → 1 ≤ nth l j ∧ nth l j ≤ 8) → 1 ≤ n → n ≤ ((8 ^ k : Nat) : Int) → 1 ≤ prodW n l := by
  intro l
  induction l with
  | nil => intro n k _ _ h _; exact h
  | cons x l ih =>
    intro n k hk hr h0 hP
    simp only [prodW]
    have hx := hr 0 (by simp)
    have hx' : 1 ≤ x ∧ x ≤ 8 := by simpa [nth] using hx
    have hk1 := pow8 k (by simp at hk; omega)
    have hk2 := pow8 (k + 1) (by simp at hk; omega)
    have hpk : ((8 ^ (k + 1) : Nat) : Int) = ((8 ^ k : Nat) : Int) * 8 := by rw [Nat.pow_succ]; simp
    have hPx := mul_rng (a := n) (b := x) (A := ((8 ^ k : Nat) : Int)) (B := 8) (by omega) (by omega)
    have hlow : n * 1 ≤ n * x := Int.mul_le_mul_of_nonneg_left hx'.1 (by omega)
    rw [w_id (x := n * x) (by omega)]
    exact ih _ (k + 1) (by simp at hk; omega) (fun j hj => by simpa [nth] using hr (j + 1) (by simpa using hj)) (by omega) (by omega)
theorem devs_pos {l : List Int} (h : meshOK l = true) : 1 ≤ devs l := by
  unfold devs
  rw [if_pos h]
  obtain ⟨h3, hr⟩ := meshOK_pos h
  exact prodW_pos l 1 0 (by omega) hr (by omega) (by simp)
theorem meshAt_in {sz : List Int} {d : Int} (hm : meshOK sz = true) (h0 : 0 ≤ d) (h1 : d < devs sz) (j : Nat) (hj : j < sz.length) : 0 ≤ nth (meshAt sz d) j ∧ nth (meshAt sz d) j < nth sz j := by
  have := devs_le sz
  unfold meshAt
  exact atW_in sz (fun j hj => ((meshOK_pos hm).2 j hj).1) sz.length d _ (Nat.le_refl _) (by simp) h0 (by omega) (fun j h1 h2 => by omega) j hj
theorem cutsGo_at (s sz at' sp : List Int) : ∀ (n i : Nat), i < n → (cutsGo s sz at' sp n)[i]? = some (cutAt s sz at' i (nth sp i)) := by
  intro n
  induction n with
  | zero => intro i h; omega
  | succ n ih =>
    intro i h
    simp only [cutsGo]
    by_cases hi : i < n
    · rw [List.getElem?_append_left (by rw [cutsGo_len]; exact hi), ih i hi]
    · have : i = n := by omega
      subst this
      rw [List.getElem?_append_right (by rw [cutsGo_len]; exact Nat.le_refl _), cutsGo_len]
      simp
theorem slGo_zero : ∀ (s f q : List Int), (∀ i : Nat, i < s.length → 0 ≤ nth f i ∧ nth f i ≤ nth s i ∧ 0 ≤ nth q i ∧ nth q i ≤ w (nth s i - nth f i)) → slGo s f q = 0 := by
  intro s
  induction s with
  | nil => intro f q _; rfl
  | cons n s ih =>
    intro f q h
    cases f with
    | nil => rfl
    | cons a f =>
      cases q with
      | nil => rfl
      | cons z q =>
        have h0 := h 0 (by simp)
        simp [nth] at h0
        simp only [slGo]
        rw [if_neg (by omega)]
        exact ih f q fun i hi => by simpa [nth] using h (i + 1) (by simpa using hi)
/-- A device's part may be cut out. -/
theorem sliced_part {s sz sp : List Int} {d : Int} (h : mayCut s sz sp d) : slicedL s (fromL s sz sp d) (sizeL s sz sp d) = 0 := by
  obtain ⟨hs, hsp, h0, h1⟩ := h
  obtain ⟨hl, hm, hr⟩ := specOK_lt hsp
  have hl' : sp.length = s.length := by omega
  have hf : (fromL s sz sp d).length = s.length := fromL_len' hl' ⟨hs, hsp, h0, h1⟩
  have hq : (sizeL s sz sp d).length = s.length := by
    unfold sizeL cutsL
    rw [if_pos ⟨hs, hsp, h0, h1⟩, List.length_map, cutsGo_len, hl']
  unfold slicedL
  rw [if_neg (by omega)]
  refine slGo_zero s _ _ fun i hi => ?_
  have hc := cutsGo_at s sz (meshAt sz d) sp sp.length i (by omega)
  have e1 : nth (fromL s sz sp d) i = (cutAt s sz (meshAt sz d) i (nth sp i)).1 := by
    unfold fromL cutsL
    rw [if_pos ⟨hs, hsp, h0, h1⟩]
    simp [nth, List.getD_eq_getElem?_getD, hc]
  have e2 : nth (sizeL s sz sp d) i = w ((cutAt s sz (meshAt sz d) i (nth sp i)).2 - (cutAt s sz (meshAt sz d) i (nth sp i)).1) := by
    unfold sizeL cutsL
    rw [if_pos ⟨hs, hsp, h0, h1⟩]
    simp [nth, List.getD_eq_getElem?_getD, hc]
  rw [e1, e2]
  have hsi := (shapeOK_rng hs).2 i hi
  have hri := hr i (by omega)
  unfold cutAt
  by_cases hk : 0 ≤ nth sp i
  · rw [if_pos hk]
    obtain ⟨k, hk'⟩ : ∃ k : Nat, nth sp i = k := ⟨(nth sp i).toNat, by omega⟩
    rw [hk'] at hri ⊢
    have hin := meshAt_in hm h0 h1 k (by omega)
    have hmp := (meshOK_pos hm).2 k (by omega)
    have := cut_ok hsi hmp.2 hin
    simp only [cutOK, decide_eq_true_eq] at this
    exact this
  · rw [if_neg hk]
    simp only [Int.sub_zero]
    rw [w_id (by omega)]
    omega
theorem mayL_zero {p : List Int × List Int} {sz sp : List Int} (h : mayL p sz sp = 0) : tOK p = true ∧ specOK sz sp p.1.length = true := by
  unfold mayL at h
  split at h
  · omega
  · rename_i h1
    split at h
    · omega
    · rename_i h2
      exact ⟨by simpa using h1, by simpa using h2⟩
/-- A part's numbers. -/
noncomputable def partD (p : List Int × List Int) (sz sp : List Int) (d : Int) : List Int := madeL (fun at1 => atT p (addL at1 (fromL p.1 sz sp d))) (sizeL p.1 sz sp d)
theorem partT_ok {p : List Int × List Int} {sz sp : List Int} {d : Int} (h : mayL p sz sp = 0) (h0 : 0 ≤ d) (h1 : d < devs sz) : partT p sz sp d = okTn (trS (sizeL p.1 sz sp d)) (trF (partD p sz sp d)) := by
  obtain ⟨ht, hsp⟩ := mayL_zero h
  have hsh : shapeOK p.1 = true := by simp [tOK] at ht; exact ht.1
  have hs0 := sliced_part (s := p.1) (sz := sz) (sp := sp) (d := d) ⟨hsh, hsp, h0, h1⟩
  unfold partT
  rw [if_pos h, if_neg (by omega)]
  simp only [sliceT, ht, if_true, hs0]
  rfl
/- Walks: all devices' parts. -/
/-- All devices' parts, up to one. -/
noncomputable def partsN (p : List Int × List Int) (sz sp : List Int) (n : Nat) : List (Tr × Tr) := (List.range n).map fun (d : Nat) => (trS (sizeL p.1 sz sp d), trF (partD p sz sp d))
theorem partsN_succ (p : List Int × List Int) (sz sp : List Int) (n : Nat) : partsN p sz sp (n + 1) = partsN p sz sp n ++ [(trS (sizeL p.1 sz sp n), trF (partD p sz sp n))] := by
  simp [partsN, List.range_succ]
theorem partsN_len (p : List Int × List Int) (sz sp : List Int) (n : Nat) : (partsN p sz sp n).length = n := by simp [partsN]
noncomputable def allT (p : List Int × List Int) (sz sp : List Int) : Tr := if mayL p sz sp = 0 then .tup [trTs (partsN p sz sp (devs sz).toNat), .at (.int .i64 0)] else .tup [.at .nilS, .at (.int .i64 (mayL p sz sp))]
noncomputable def F37 (args : List AV) (H : Hp) : Option (AV × Hp) := match args with
  | [t, a, b] => (tens H t).bind fun p => (ints H a).bind fun sz => (ints H b).map fun sp => mk (allT p sz sp) H
  | _ => none
theorem okTs_app (c : Nat) (l m : List Tr) : okTs c (l ++ m) = (okTs c l && okTs c m) := by
  induction l with
  | nil => simp [okTs]
  | cons t l ih => simp [okTs, ih, Bool.and_assoc]
theorem okT_Ts (c : Nat) (p : List Int × List Int) (sz sp : List Int) (n : Nat) : okT c (trTs (partsN p sz sp n)) = true := by
  have h : okTs c (cellsT (partsN p sz sp n)) = true := by
    induction n with
    | zero => rfl
    | succ n ih =>
      have : cellsT (partsN p sz sp (n + 1)) = cellsT (partsN p sz sp n) ++ [trS (sizeL p.1 sz sp n), trF (partD p sz sp n)] := by rw [partsN_succ]; simp [cellsT]
      rw [this, okTs_app, ih]
      simp [okTs, okT_S, okT_F]
  unfold trTs trG
  split
  · rfl
  · exact h
theorem partD_len (p : List Int × List Int) (sz sp : List Int) (d : Int) : (partD p sz sp d).length ≤ 4096 := by
  unfold partD
  rw [madeL_len]
  have := sizeOf_le (sizeL p.1 sz sp d)
  omega
set_option maxHeartbeats 2000000 in
theorem snd37 : Sound Try.prog 37 (FSem.eff F37).run := by
  refine sound_of hT (EOK_cons snd81 (EOK_cons snd87 (EOK_cons snd88 (EOK_nil _)))) mixed A37 Try.func37 hb37 (by kernel_rfl) (by kernel_rfl) (by kernel_rfl) (by kernel_rfl) sh37 3 (by kernel_rfl) rs37 hr37 ?_
  intro args H r H' hw h
  have hv : F37 args H = some (r, H') := h
  clear h
  unfold F37 at hv
  split at hv
  · rename_i t a b
    obtain ⟨p, ht, hv⟩ := Option.bind_eq_some_iff.1 hv
    obtain ⟨sz, hsz, hv⟩ := Option.bind_eq_some_iff.1 hv
    obtain ⟨sp, hsp, hv⟩ := Option.map_eq_some_iff.1 hv
    have hvv := Hide.mk hv
    clear hv
    obtain ⟨x, y, rfl, hx, hy⟩ := tens_some ht
    have hbx := abox_agg H (ints_one' hx) (ints_one' hy)
    have x0 : Ext H (H.new [x, y]) := (Ext.refl hw).new _
    have a0 := new_at H [x, y]
    have hv0 : H.c < (H.new [x, y]).c := Nat.lt_succ_self _
    generalize hH0 : H.new [x, y] = H0 at *
    generalize hp0 : H.bs.length = p0 at *
    generalize hq0 : H.c = q0 at *
    have l1 := ld40 a0
    have ht0 := tens_ext x0.pre ht
    have hsz0 := ints_ext x0.pre hsz
    have hsp0 := ints_ext x0.pre hsp
    have hw0 := x0.wf
    refine ⟨rfl, go ?_⟩
    unfold c37
    simp only [argSl]
    replace x0 := Hide.mk x0
    clear ht hx hy hsz hsp
    by_cases hm : mayL p sz sp = 0
    · obtain ⟨D, hD⟩ : ∃ D : Nat, devs sz = D := by
        obtain ⟨_, hsp'⟩ := mayL_zero hm
        have h1 := (specOK_lt hsp').2.1
        have := devs_pos h1
        exact ⟨(devs sz).toNat, by omega⟩
      have hD8 : D ≤ 8 := by have := devs_le sz; omega
      have hres : allT p sz sp = .tup [trTs (partsN p sz sp D), .at (.int .i64 0)] := by simp [allT, hm, hD]
      replace hvv := hvv.out
      rw [hres] at hvv
      replace hvv := Hide.mk hvv
      repeat' (first | apply goSeq | apply goReg | apply goSeqN | apply goSeqR | apply goSkip | apply goRet | apply goNil | apply goBlock | apply goExit | apply goBlkN | apply goBlkR | apply goBlkE | apply goSeqE | apply goLoopR | apply goLoopE | refine xOp ?_ | refine xOp0 ?_ | refine xYes ?_ | refine xNo ?_ | refine xNoU ?_ | refine xIfT ?_ | refine xIfF ?_ | refine xIf ?_ ?_ | refine xSplit ?_ ?_ | refine xIfQ ?_ ?_ | refine xSplitQ ?_ ?_ | refine xBlkX ?_ | intro _)
      clear hH0 hp0 hbx
      refine goLoop (fun m s1 G => ∃ (d : Nat) (u : AV) (bs : List (Nat × Nat)), m = D - d ∧ d ≤ D ∧ get s1 1 = a ∧ get s1 2 = b ∧ get s1 3 = .ptr p0 q0 0 ∧ get s1 9 = u ∧ get s1 21 = .int .i64 D ∧ get s1 22 = .int .i64 d ∧ Ext H0 G ∧ Rep H0.c G (trTs (partsN p sz sp d)) u bs ∧ Fresh H0.c G.c bs) D ?_ ?_
      · exact ⟨0, .nilS, [], rfl, Nat.zero_le _, rfl, rfl, rfl, rfl, rfl, rfl, Ext.refl hw0, by simp [partsN, trTs, trG, Rep, old], Fresh.nil _ _⟩
      rintro m s1 G ⟨d, u, bs, hmm, hd, g1, g2, g3, g4, g5, g6, hx, hr, hf⟩
      simp only [cut_cons, cut_nil, g1, g2, g3, g4, g5, g6]
      clear g1 g2 g3 g4 g5 g6
      have hd0 : (0 : Int) ≤ d := Int.natCast_nonneg d
      have hw1 : w ((d : Int) + 1) = ((d + 1 : Nat) : Int) := w_id (by omega)
      have l1G := ld40 (hx.pre.at a0)
      by_cases hdD : d < D
      · have hdD' : (d : Int) < D := by omega
        have htG := tens_ext hx.pre ht0
        have hszG := ints_ext hx.pre hsz0
        have hspG := ints_ext hx.pre hsp0
        have e81 : F81 [.agg [x, y], a, b, .int .i64 d] G = some (mk (okTn (trS (sizeL p.1 sz sp d)) (trF (partD p sz sp d))) G) := by
          show (tens G _).bind _ = _
          rw [htG, Option.bind_some, hszG, Option.bind_some, hspG, Option.map_some, partT_ok hm hd0 (by omega)]
        have hsl := sizeL_len p.1 sz sp d
        have hdl := partD_len p sz sp d
        obtain ⟨bx, r1, f1, x1, t1⟩ := mk_tens (H := G) hx.wf (a := trS (sizeL p.1 sz sp d)) (b := trF (partD p sz sp d)) (.inl rfl) (.inr (.inl rfl)) (by omega) (by omega)
        rw [mk_okTn] at e81
        have hps := partsN_succ p sz sp d
        have hokT : okT 0 (.agg [trS (sizeL p.1 sz sp d), trF (partD p sz sp d)]) = true := by simp [okT, okTs, okT_S, okT_F]
        generalize trS (sizeL p.1 sz sp d) = ta at *
        generalize trF (partD p sz sp d) = td at *
        generalize hr1 : mk (.agg [ta, td]) G = tt at *
        obtain ⟨tv, G2⟩ := tt
        simp only at r1 f1 x1 t1 e81
        obtain ⟨shv, dav, b1, b2, rfl, rs1, rd1, hbx⟩ := rep_agg2.1 r1
        obtain ⟨_, _, hag, hsi, hdi⟩ := tens_some t1
        cases hag
        have hone := ints_one' hsi
        have hone2 := ints_one' hdi
        -- its own cell
        have a3 := new_at G2 [.nilS, .nilS]
        have x3 : Ext G2 (G2.new [.nilS, .nilS]) := (Ext.refl x1.wf).new _
        have hq3 : G2.c < (G2.new [AV.nilS, AV.nilS]).c := Nat.lt_succ_self _
        have st := st40 (x := shv) (y := dav) a3 hone hone2
        have lr := ld40 (at_put_same (k' := ⟨G2.c, [shv, dav], true, true⟩) a3 rfl)
        have hkp : ∀ b' ver', ver' ≠ G2.c → Keeps (G2.new [.nilS, .nilS]) ((G2.new [.nilS, .nilS]).put G2.bs.length ⟨G2.c, [shv, dav], true, true⟩) b' ver' := fun b' ver' h => Keeps.put a3 h
        have x14 : Ext H0 ((G2.new [.nilS, .nilS]).put G2.bs.length ⟨G2.c, [shv, dav], true, true⟩) := put_ext hw0 ((hx.trans x1).trans x3) (Nat.le_trans hx.c x1.c) a3
        have hr4 : Rep H0.c ((G2.new [.nilS, .nilS]).put G2.bs.length ⟨G2.c, [shv, dav], true, true⟩) (trTs (partsN p sz sp d)) u bs :=
          Rep.keep _ (fun q hq => hkp q.1 q.2 (by have := (hf.2 q hq).2; have := x1.c; omega)) ((hr.ext x1.pre).ext x3.pre)
        have hrs4 : Rep H0.c ((G2.new [.nilS, .nilS]).put G2.bs.length ⟨G2.c, [shv, dav], true, true⟩) (.agg [ta, td]) (.agg [shv, dav]) bx :=
          Rep.keep _ (fun q hq => hkp q.1 q.2 (by have := (f1.2 q hq).2; omega)) ((rep_down _ (c0 := 0) hokT (Nat.zero_le _) hx.c r1).ext x3.pre)
        have hq4 : ((G2.new [.nilS, .nilS]).put G2.bs.length ⟨G2.c, [shv, dav], true, true⟩).c = (G2.new [AV.nilS, AV.nilS]).c := rfl
        generalize hG3 : G2.new [.nilS, .nilS] = G3 at *
        generalize hG4 : G3.put G2.bs.length ⟨G2.c, [shv, dav], true, true⟩ = G4 at *
        obtain ⟨vs', ee, hreps⟩ := (by simpa only [Rep] using hrs4 : ∃ vs, AV.agg [shv, dav] = .agg vs ∧ Reps H0.c G4 [ta, td] vs bx)
        cases ee
        have habs := abs45_agg (x := shv) (y := dav) G4 hone hone2
        obtain ⟨u', G5, bs', bk, b', ver', e5, hr5, hbs', hbk, hbkn, hv5, hv5', hk5, hx5⟩ := rep_app (t := 45) (e := 40) (n := d) (cs := cellsT (partsN p sz sp d)) D45 T40 rfl (by decide) x14.wf x14.c (by have := hr4; simp only [trTs, partsN_len] at this; exact this) hreps (by rw [cellsT_len, partsN_len]) rfl (by decide) (by simp [maxBytes]; omega) hf.1 (fun q hq hq2 => by have := (hf.2 q hq).2; have := (f1.2 q hq2).1; omega)
        have hx6 := hx5 H0 hw0 x14 (Nat.le_refl _)
        have hr6 : Rep H0.c G5 (trTs (partsN p sz sp (d + 1))) u' bs' := by
          rw [hps, trTs_app, partsN_len]; exact hr5
        have hf6 : Fresh H0.c G5.c bs' := by
          rw [hbs']
          have hbkf : Fresh H0.c G.c bk := ⟨hbkn, fun q hq => hf.2 q (hbk q hq)⟩
          have h12 := hbkf.app f1 hx.c x1.c
          exact h12.app (Fresh.one (b := b') (c := G2.c) (by omega) hv5') (Nat.le_trans hx.c x1.c) (by omega)
        replace hx := Hide.mk hx
        replace hf := Hide.mk hf
        replace hx6 := Hide.mk hx6
        replace hr6 := Hide.mk hr6
        replace hf6 := Hide.mk hf6
        clear hr r1 f1 x1 t1 rs1 rd1 hsi hdi a3 x3 x14 hr4 hrs4 hreps hkp hr5 hbs' hbk hbkn hk5 hx5 hps hszG hspG htG hr1 ht0 hsz0 hsp0
        replace e5 : aapp T false 45 45 u (.sl G4.bs.length G4.c 0 1 2 true) (G4.new [shv, dav]) = some (u', G5) := e5
        clear hq4 hv5 hv5' hsl hdl hbx hokT hq3
        repeat' (first | apply goSeq | apply goReg | apply goSeqN | apply goSeqR | apply goSkip | apply goRet | apply goNil | apply goBlock | apply goExit | apply goBlkN | apply goBlkR | apply goBlkE | apply goSeqE | apply goLoopR | apply goLoopE | refine xOp ?_ | refine xOp0 ?_ | refine xYes ?_ | refine xNo ?_ | refine xNoU ?_ | refine xIfT ?_ | refine xIfF ?_ | refine xIf ?_ ?_ | refine xSplit ?_ ?_ | refine xIfQ ?_ ?_ | refine xSplitQ ?_ ?_ | refine xBlkX ?_ | intro _)
        exact goLoopN (D - (d + 1)) (by omega) ⟨d + 1, u', bs', rfl, by omega, rfl, rfl, rfl, rfl, rfl, rfl, hx6.out, hr6.out, hf6.out⟩
      · have hdD' : ¬ (d : Int) < D := by omega
        have hdE : d = D := by omega
        subst hdE
        replace hx := Hide.mk hx
        replace hr := Hide.mk hr
        replace hf := Hide.mk hf
        clear ht0 hsz0 hsp0
        repeat' (first | apply goSeq | apply goReg | apply goSeqN | apply goSeqR | apply goSkip | apply goRet | apply goNil | apply goBlock | apply goExit | apply goBlkN | apply goBlkR | apply goBlkE | apply goSeqE | apply goLoopR | apply goLoopE | refine xOp ?_ | refine xOp0 ?_ | refine xYes ?_ | refine xNo ?_ | refine xNoU ?_ | refine xIfT ?_ | refine xIfF ?_ | refine xIf ?_ ?_ | refine xSplit ?_ ?_ | refine xIfQ ?_ ?_ | refine xSplitQ ?_ ?_ | refine xBlkX ?_ | intro _)
        refine goEndR (vs := [u, .int .i64 0]) (bs := bs) (d := G.c) (t := .tup [trTs (partsN p sz sp d), .at (.int .i64 0)]) hw (x0.out.pre.trans hx.out.pre) ?_ ?_ (by simp) (by simp [rs37]) rfl hvv.out
        · show Rep _ _ _ (AV.tup [_, _]) _
          rw [rep_tupI]
          exact rep_down _ (c0 := 0) (okT_Ts 0 p sz sp d) (Nat.zero_le _) x0.out.c hr.out
        · exact hf.out.wide x0.out.c (Nat.le_refl _)
    · have hres : allT p sz sp = .tup [.at .nilS, .at (.int .i64 (mayL p sz sp))] := by simp [allT, hm]
      replace hvv := hvv.out
      rw [hres] at hvv
      replace hvv := Hide.mk hvv
      repeat' (first | apply goSeq | apply goReg | apply goSeqN | apply goSeqR | apply goSkip | apply goRet | apply goNil | apply goBlock | apply goExit | apply goBlkN | apply goBlkR | apply goBlkE | apply goSeqE | apply goLoopR | apply goLoopE | refine xOp ?_ | refine xOp0 ?_ | refine xYes ?_ | refine xNo ?_ | refine xNoU ?_ | refine xIfT ?_ | refine xIfF ?_ | refine xIf ?_ ?_ | refine xSplit ?_ ?_ | refine xIfQ ?_ ?_ | refine xSplitQ ?_ ?_ | refine xBlkX ?_ | intro _)
      refine goEndR (vs := [.nilS, .int .i64 (mayL p sz sp)]) (bs := []) (d := H.c) (t := .tup [.at .nilS, .at (.int .i64 (mayL p sz sp))]) hw x0.out.pre ?_ (Fresh.nil _ _) (by simp) (by simp [rs37]) rfl hvv.out
      show Rep _ _ _ (AV.tup [_, _]) _
      rw [rep_tupI]
      simp [Rep, old]
  · cases hv
/- Plain laws: places that lie in a shape; the least device. -/
theorem ofGo_in : ∀ (s l : List Int) (d P : Int) (k : Nat), k + s.length ≤ 4 → (∀ j : Nat, j < s.length → 0 ≤ nth s j ∧ nth s j ≤ 32) → 0 ≤ d → d < P → P ≤ ((32 ^ k : Nat) : Int) → l.length = s.length → (∀ j : Nat, j < s.length → 0 ≤ nth l j ∧ nth l j < nth s j) → 0 ≤ ofGo d s l ∧ ofGo d s l < prodW P s := by
  intro s
  induction s with
  | nil =>
    intro l d P k _ _ h0 h1 _ hl _
    have : l = [] := List.eq_nil_of_length_eq_zero (by simpa using hl)
    subst this
    exact ⟨h0, h1⟩
  | cons x s ih =>
    intro l d P k hk hs h0 h1 hP hl hin
    cases l with
    | nil => simp at hl
    | cons y l =>
      simp only [ofGo, prodW]
      have hy := hin 0 (by simp)
      have hy' : 0 ≤ y ∧ y < x := by simpa [nth] using hy
      rw [if_neg (by omega)]
      have hx := hs 0 (by simp)
      have hx' : 0 ≤ x ∧ x ≤ 32 := by simpa [nth] using hx
      have hk1 := pow32 k (by simp at hk; omega)
      have hk2 := pow32 (k + 1) (by simp at hk; omega)
      have hpk : ((32 ^ (k + 1) : Nat) : Int) = ((32 ^ k : Nat) : Int) * 32 := by rw [Nat.pow_succ]; simp
      have hPx := mul_rng (a := P) (b := x) (A := ((32 ^ k : Nat) : Int)) (B := 32) (by omega) hx'
      have hdx := mul_rng (a := d) (b := x) (A := P - 1) (B := x) (by omega) (by omega)
      have hs1 : (P - 1) * x = P * x - x := by rw [Int.sub_mul, Int.one_mul]
      rw [w_id (x := d * x) (by omega), w_id (x := d * x + y) (by omega), w_id (x := P * x) (by omega)]
      exact ih l (d * x + y) (P * x) (k + 1) (by simp at hk; omega) (fun j hj => by simpa [nth] using hs (j + 1) (by simpa using hj)) (by omega) (by omega) (by omega) (by simpa using hl) (fun j hj => by simpa [nth] using hin (j + 1) (by simpa using hj))
theorem idxL_in {s l : List Int} (hs : shapeOK s = true) (hl : l.length = s.length) (hin : ∀ j : Nat, j < s.length → 0 ≤ nth l j ∧ nth l j < nth s j) : 0 ≤ idxL s l ∧ idxL s l < sizeOf s := by
  obtain ⟨h4, hr⟩ := shapeOK_rng hs
  unfold idxL
  rw [if_neg (by simp [hs, hl])]
  have hz : sizeOf s = prodW 1 s := by simp [sizeOf, hs]
  rw [hz]
  exact ofGo_in s l 0 1 0 (by omega) hr (by omega) (by omega) (by simp) hl hin
theorem ofL_in {s l : List Int} (hs : meshOK s = true) (hl : l.length = s.length) (hin : ∀ j : Nat, j < s.length → 0 ≤ nth l j ∧ nth l j < nth s j) : 0 ≤ ofL s l ∧ ofL s l < devs s := by
  obtain ⟨h4, hr⟩ := meshOK_pos hs
  unfold ofL
  rw [if_neg (by simp [hs, hl])]
  have hz : devs s = prodW 1 s := by simp [devs, hs]
  rw [hz]
  exact ofGo_in s l 0 1 0 (by omega) (fun j hj => by have := hr j hj; omega) (by omega) (by omega) (by simp) hl hin
theorem nth_addL' : ∀ (l m : List Int) (j : Nat), j < l.length → j < m.length → nth (addL l m) j = w (nth l j + nth m j) := by
  intro l
  induction l with
  | nil => intro m j h; simp at h
  | cons a l ih =>
    intro m j h1 h2
    cases m with
    | nil => simp at h2
    | cons b m =>
      cases j with
      | zero => simp [addL, nth]
      | succ j => simpa [addL, nth] using ih m j (by simpa using h1) (by simpa using h2)
theorem nth_mask (sp : List Int) : ∀ (l : List Int) (i j : Nat), j < l.length → nth (maskL sp i l) j = if contains sp (i + j : Nat) = true then nth l j else 0 := by
  intro l
  induction l with
  | nil => intro i j h; simp at h
  | cons a l ih =>
    intro i j h
    cases j with
    | zero => simp [maskL, nth]
    | succ j =>
      have := ih (i + 1) j (by simpa using h)
      simp only [maskL]
      rw [show i + 1 + j = i + (j + 1) by omega] at this
      simpa [nth] using this
theorem maskL_len (sp : List Int) : ∀ (l : List Int) (i : Nat), (maskL sp i l).length = l.length := by
  intro l
  induction l with
  | nil => intro i; rfl
  | cons a l ih => intro i; simp [maskL, ih]
theorem first_rng {sz sp : List Int} {d : Int} (h : specOK sz sp sp.length = true) (h0 : 0 ≤ d) (h1 : d < devs sz) : 0 ≤ firstL sz sp d ∧ firstL sz sp d < devs sz := by
  have hm := (specOK_lt h).2.1
  unfold firstL
  rw [if_neg (by simp [h]; omega)]
  refine ofL_in hm (by rw [maskL_len, meshAt_len]) fun j hj => ?_
  have hin := meshAt_in hm h0 h1 j hj
  rw [nth_mask sp _ 0 j (by rw [meshAt_len]; exact hj)]
  split
  · exact hin
  · have := (meshOK_pos hm).2 j hj; omega
theorem place_in {s : List Int} {i : Int} (hs : shapeOK s = true) (h0 : 0 ≤ i) (h1 : i < sizeOf s) (j : Nat) (hj : j < s.length) : 0 ≤ nth (meshAt s i) j ∧ nth (meshAt s i) j < nth s j := by
  have hz : sizeOf s = prodW 1 s := by simp [sizeOf, hs]
  have hp := shape_pos hs (by omega)
  have := sizeOf_le s
  unfold meshAt
  exact atW_in s (fun j hj => (hp.2 j hj).1) s.length i _ (Nat.le_refl _) (by simp) h0 (by omega) (fun j h1 h2 => by omega) j hj
/-- A device's part, axis by axis. -/
theorem part_rng {s sz sp : List Int} {d : Int} (h : mayCut s sz sp d) : (fromL s sz sp d).length = s.length ∧ (sizeL s sz sp d).length = s.length ∧ ∀ i : Nat, i < s.length → 0 ≤ nth (fromL s sz sp d) i ∧ 0 ≤ nth (sizeL s sz sp d) i ∧ nth (fromL s sz sp d) i + nth (sizeL s sz sp d) i ≤ nth s i := by
  obtain ⟨hs, hsp, h0, h1⟩ := h
  obtain ⟨hl, hm, hr⟩ := specOK_lt hsp
  have hl' : sp.length = s.length := by omega
  have hf : (fromL s sz sp d).length = s.length := fromL_len' hl' ⟨hs, hsp, h0, h1⟩
  have hq : (sizeL s sz sp d).length = s.length := by
    unfold sizeL cutsL
    rw [if_pos ⟨hs, hsp, h0, h1⟩, List.length_map, cutsGo_len, hl']
  refine ⟨hf, hq, fun i hi => ?_⟩
  have hc := cutsGo_at s sz (meshAt sz d) sp sp.length i (by omega)
  have e1 : nth (fromL s sz sp d) i = (cutAt s sz (meshAt sz d) i (nth sp i)).1 := by
    unfold fromL cutsL
    rw [if_pos ⟨hs, hsp, h0, h1⟩]
    simp [nth, List.getD_eq_getElem?_getD, hc]
  have e2 : nth (sizeL s sz sp d) i = w ((cutAt s sz (meshAt sz d) i (nth sp i)).2 - (cutAt s sz (meshAt sz d) i (nth sp i)).1) := by
    unfold sizeL cutsL
    rw [if_pos ⟨hs, hsp, h0, h1⟩]
    simp [nth, List.getD_eq_getElem?_getD, hc]
  rw [e1, e2]
  have hsi := (shapeOK_rng hs).2 i hi
  have hri := hr i (by omega)
  unfold cutAt
  by_cases hk : 0 ≤ nth sp i
  · rw [if_pos hk]
    obtain ⟨k, hk'⟩ : ∃ k : Nat, nth sp i = k := ⟨(nth sp i).toNat, by omega⟩
    rw [hk'] at hri ⊢
    have hin := meshAt_in hm h0 h1 k (by omega)
    have hmp := (meshOK_pos hm).2 k (by omega)
    have := cut_ok hsi hmp.2 hin
    simp only [cutOK, decide_eq_true_eq] at this
    have hw2 : w (nth s i - (cut (nth s i) (nth sz k) (nth (meshAt sz d) k)).1) = nth s i - (cut (nth s i) (nth sz k) (nth (meshAt sz d) k)).1 := w_id (by omega)
    omega
  · rw [if_neg hk]
    simp only [Int.sub_zero]
    rw [w_id (by omega)]
    omega
/-- Where a number of a part lies. -/
theorem whole_in {s sz sp : List Int} {d i : Int} (h : mayCut s sz sp d) (hz : shapeOK (sizeL s sz sp d) = true) (h0 : 0 ≤ i) (h1 : i < sizeOf (sizeL s sz sp d)) :
    ∀ j : Nat, j < s.length → nth (addL (meshAt (sizeL s sz sp d) i) (fromL s sz sp d)) j = nth (meshAt (sizeL s sz sp d) i) j + nth (fromL s sz sp d) j ∧ 0 ≤ nth (addL (meshAt (sizeL s sz sp d) i) (fromL s sz sp d)) j ∧ nth (addL (meshAt (sizeL s sz sp d) i) (fromL s sz sp d)) j < nth s j := by
  obtain ⟨hf, hq, hr⟩ := part_rng h
  intro j hj
  have hp := place_in hz h0 h1 j (by omega)
  have hrj := hr j hj
  have hsj := (shapeOK_rng h.1).2 j hj
  rw [nth_addL' _ _ j (by rw [meshAt_len]; omega) (by omega), w_id (by omega)]
  omega
/- Lists of tensors, read. -/
def tensG (H : Hp) : List AV → Option (List (List Int × List Int))
  | [] => some []
  | x :: y :: l => (tens H (.agg [x, y])).bind fun p => (tensG H l).map fun L => p :: L
  | _ => none
/-- The tensors of a list. -/
def tensL (H : Hp) (v : AV) : Option (List (List Int × List Int)) := match v with
  | .nilS => some []
  | .mtS => some []
  | .sl b ver off n es _ => if es = 2 ∧ n ≤ 2932031007402 then (H.at b ver).bind fun k => if off + n * 2 ≤ k.cells.length then tensG H ((k.cells.drop off).take (n * 2)) else none else none
  | _ => none
abbrev TS := List Int × List Int
def tth (L : List TS) (j : Nat) : TS := L.getD j ([], [])
theorem tensG_at : ∀ (cs : List AV) {H : Hp} {L : List TS}, tensG H cs = some L → cs.length = L.length * 2 ∧ ∀ j : Nat, j < L.length → ∃ x y, (cs.drop (j * 2)).take 2 = [x, y] ∧ tens H (.agg [x, y]) = some (tth L j)
  | [], H, L, h => by simp only [tensG] at h; cases h; simp
  | [_], H, L, h => by simp [tensG] at h
  | x :: y :: l, H, L, h => by
    simp only [tensG] at h
    obtain ⟨p, hp, h⟩ := Option.bind_eq_some_iff.1 h
    obtain ⟨L', hL, rfl⟩ := Option.map_eq_some_iff.1 h
    obtain ⟨h1, h2⟩ := tensG_at l hL
    refine ⟨by simp; omega, fun j hj => ?_⟩
    cases j with
    | zero => exact ⟨x, y, by simp, by simpa [tth] using hp⟩
    | succ j =>
      obtain ⟨x', y', g1, g2⟩ := h2 j (by simpa using hj)
      exact ⟨x', y', by rw [show (j + 1) * 2 = j * 2 + 1 + 1 by omega]; simpa using g1, by simpa [tth] using g2⟩
theorem tensG_ext {H H' : Hp} (hp : Pre H H') : ∀ (cs : List AV) {L : List TS}, tensG H cs = some L → tensG H' cs = some L
  | [], L, h => h
  | [_], L, h => by simp [tensG] at h
  | x :: y :: l, L, h => by
    simp only [tensG] at h ⊢
    obtain ⟨p, hp', h⟩ := Option.bind_eq_some_iff.1 h
    obtain ⟨L', hL, rfl⟩ := Option.map_eq_some_iff.1 h
    rw [tens_ext hp hp', tensG_ext hp l hL]; rfl
theorem tensL_ext {H H' : Hp} (hp : Pre H H') {v : AV} {L : List TS} (h : tensL H v = some L) : tensL H' v = some L := by
  unfold tensL at h ⊢
  split at h
  · exact h
  · exact h
  · split at h
    · rename_i he
      obtain ⟨k, hk, h⟩ := Option.bind_eq_some_iff.1 h
      simp only [he, and_self, if_true, hp.at hk, Option.bind_some]
      split at h
      · rename_i hle
        rw [if_pos hle]; exact tensG_ext hp _ h
      · cases h
    · cases h
  · cases h
theorem alen45 (v : AV) : alen T 45 v = alenS v := by simp [alen, D45]
theorem aidx45 (v i : AV) : aidx T 45 v i = aidxS 2 v i := by simp [aidx, D45, T40]
/-- What reading a list of tensors comes to. -/
theorem tensL_at {H : Hp} {v : AV} {L : List TS} (h : tensL H v = some L) : alen T 45 v = some (.int .i64 L.length) ∧ L.length ≤ 2932031007402 ∧ ∀ j : Nat, j < L.length → ∃ q x y, aidx T 45 v (.int .i64 j) = some q ∧ aload T 40 q H = some (.agg [x, y]) ∧ tens H (.agg [x, y]) = some (tth L j) ∧ ∃ b ver o, q = .ptr b ver o ∧ aload T 38 (.ptr b ver (o + 1)) H = some y := by
  rw [alen45]
  unfold tensL at h
  split at h
  · cases h; exact ⟨rfl, by simp, by simp⟩
  · cases h; exact ⟨rfl, by simp, by simp⟩
  · rename_i b ver off n es f
    split at h
    rotate_left
    · cases h
    rename_i he
    obtain ⟨rfl, hn⟩ := he
    obtain ⟨k, hk, h⟩ := Option.bind_eq_some_iff.1 h
    split at h
    rotate_left
    · cases h
    rename_i hle
    obtain ⟨h1, h2⟩ := tensG_at _ h
    have hnL : n = L.length := by simp at h1; omega
    subst hnL
    refine ⟨rfl, hn, fun j hj => ?_⟩
    obtain ⟨x, y, g1, g2⟩ := h2 j hj
    have e1 : ((k.cells.drop off).take (L.length * 2)).drop (j * 2) = ((k.cells.drop (off + j * 2)).take (L.length * 2 - j * 2)) := by
      rw [List.drop_take, List.drop_drop]
    have e2 : (k.cells.drop (off + j * 2)).take 2 = [x, y] := by
      rw [e1, List.take_take, show min 2 (L.length * 2 - j * 2) = 2 by omega] at g1
      exact g1
    refine ⟨.ptr b ver (off + j * 2), x, y, ?_, ?_, g2, b, ver, off + j * 2, rfl, ?_⟩
    · rw [aidx45]; simp only [aidxS]; rw [if_pos ⟨trivial, by omega, by omega⟩]; simp
    · simp only [aload, T40, hk]
      rw [if_pos (by omega), e2]
    · simp only [aload, T38, hk]
      have h1 := congrArg (fun l => l[1]?) e2
      simp only [List.getElem?_take, List.getElem?_drop] at h1
      simpa using h1
  · cases h
/-- A list of tensors that was handed back. -/
theorem rep_tensL {c : Nat} {H : Hp} {L : List (Tr × Tr)} {M : List TS} {v : AV} {bs : List (Nat × Nat)} (h : Rep c H (trTs L) v bs) (hl : L.length = M.length) (hn : M.length ≤ 2932031007402)
    (hi : ∀ j : Nat, j < M.length → ∃ a b, L[j]? = some (a, b) ∧ isL a (tth M j).1 ∧ isL b (tth M j).2 ∧ (tth M j).1.length ≤ 1152921504606846976 ∧ (tth M j).2.length ≤ 1152921504606846976) : tensL H v = some M := by
  have key : ∀ (L : List (Tr × Tr)) (M : List TS) {vs : List AV} {bs : List (Nat × Nat)}, L.length = M.length → (∀ j : Nat, j < M.length → ∃ a b, L[j]? = some (a, b) ∧ isL a (tth M j).1 ∧ isL b (tth M j).2 ∧ (tth M j).1.length ≤ 1152921504606846976 ∧ (tth M j).2.length ≤ 1152921504606846976) → Reps c H (cellsT L) vs bs → tensG H vs = some M := by
    intro L
    induction L with
    | nil =>
      intro M vs bs hl _ hr
      have : M = [] := List.eq_nil_of_length_eq_zero (by simpa using hl.symm)
      subst this
      simp only [cellsT, List.flatMap_nil, Reps] at hr
      rw [hr.1]; rfl
    | cons p L ih =>
      intro M vs bs hl hi hr
      cases M with
      | nil => simp at hl
      | cons m M =>
        obtain ⟨a, b, h1, h2, h3, h4, h5⟩ := hi 0 (by simp)
        simp at h1
        subst h1
        simp only [cellsT, List.flatMap_cons, List.cons_append, List.nil_append, Reps] at hr
        obtain ⟨x, vs1, b1, b2, rfl, r1, ⟨y, vs2, b3, b4, rfl, r2, r3, rfl⟩, rfl⟩ := hr
        simp only [tensG]
        simp only [tth, List.getD_cons_zero] at h2 h3 h4 h5
        rw [tens_of (h2.ints h4 r1) (h3.ints h5 r2), Option.bind_some, ih M (by simpa using hl) (fun j hj => by have := hi (j + 1) (by simpa using hj); simpa [tth] using this) r3]
        rfl
  unfold trTs trG at h
  by_cases h0 : L.length = 0
  · rw [if_pos h0] at h
    simp only [Rep] at h
    have : M = [] := List.eq_nil_of_length_eq_zero (by omega)
    subst this
    rw [h.1]; rfl
  · rw [if_neg h0] at h
    simp only [Rep] at h
    obtain ⟨b, ver, vs, bs', rfl, hv, hk, hr, rfl⟩ := h
    have hvl := reps_len _ hr
    rw [cellsT_len] at hvl
    simp only [tensL, hk, Option.bind_some]
    rw [if_pos ⟨trivial, by omega⟩, if_pos (by simp; omega)]
    have : ((vs.drop 0).take (L.length * 2)) = vs := by rw [List.drop_zero, List.take_of_length_le (by omega)]
    rw [this]
    exact key L M hl hi hr
/- What a function has made, told at once: values, each with its tree. -/
mutual
/-- As Rep, of any time. -/
def RX (H : Hp) : Tr → AV → List (Nat × Nat) → Prop
  | .at a, v, bs => v = a ∧ bs = []
  | .sl n es full cs, v, bs => ∃ b ver vs bs', v = .sl b ver 0 n es full ∧ H.at b ver = some ⟨ver, vs, true, true⟩ ∧ RXs H cs vs bs' ∧ bs = bs' ++ [(b, ver)]
  | .bx cs, v, bs => ∃ b ver vs bs', v = .ptr b ver 0 ∧ H.at b ver = some ⟨ver, vs, true, true⟩ ∧ RXs H cs vs bs' ∧ bs = bs' ++ [(b, ver)]
  | .agg cs, v, bs => ∃ vs, v = .agg vs ∧ RXs H cs vs bs
  | .tup cs, v, bs => ∃ vs, v = .tup vs ∧ RXs H cs vs bs
def RXs (H : Hp) : List Tr → List AV → List (Nat × Nat) → Prop
  | [], vs, bs => vs = [] ∧ bs = []
  | t :: l, vs, bs => ∃ v vs' b1 b2, vs = v :: vs' ∧ RX H t v b1 ∧ RXs H l vs' b2 ∧ bs = b1 ++ b2
end
mutual
theorem RX.keep {H H' : Hp} : ∀ (t : Tr) {v : AV} {bs : List (Nat × Nat)}, (∀ p ∈ bs, Keeps H H' p.1 p.2) → RX H t v bs → RX H' t v bs
  | .at a, v, bs, hn, h => by simpa only [RX] using h
  | .sl n es full cs, v, bs, hn, h => by
    simp only [RX] at h ⊢
    obtain ⟨b, ver, vs, bs', e1, e3, e4, rfl⟩ := h
    exact ⟨b, ver, vs, bs', e1, hn (b, ver) (by simp) _ e3, RXs.keep cs (fun p hp => hn p (by simp [hp])) e4, rfl⟩
  | .bx cs, v, bs, hn, h => by
    simp only [RX] at h ⊢
    obtain ⟨b, ver, vs, bs', e1, e3, e4, rfl⟩ := h
    exact ⟨b, ver, vs, bs', e1, hn (b, ver) (by simp) _ e3, RXs.keep cs (fun p hp => hn p (by simp [hp])) e4, rfl⟩
  | .agg cs, v, bs, hn, h => by
    simp only [RX] at h ⊢
    obtain ⟨vs, e1, e4⟩ := h
    exact ⟨vs, e1, RXs.keep cs hn e4⟩
  | .tup cs, v, bs, hn, h => by
    simp only [RX] at h ⊢
    obtain ⟨vs, e1, e4⟩ := h
    exact ⟨vs, e1, RXs.keep cs hn e4⟩
theorem RXs.keep {H H' : Hp} : ∀ (l : List Tr) {vs : List AV} {bs : List (Nat × Nat)}, (∀ p ∈ bs, Keeps H H' p.1 p.2) → RXs H l vs bs → RXs H' l vs bs
  | [], vs, bs, hn, h => by simpa only [RXs] using h
  | t :: l, vs, bs, hn, h => by
    simp only [RXs] at h ⊢
    obtain ⟨v, vs', b1, b2, e1, e2, e3, rfl⟩ := h
    exact ⟨v, vs', b1, b2, e1, RX.keep t (fun p hp => hn p (by simp [hp])) e2, RXs.keep l (fun p hp => hn p (by simp [hp])) e3, rfl⟩
end
mutual
theorem RX.of {c : Nat} {H : Hp} : ∀ (t : Tr) {v : AV} {bs : List (Nat × Nat)}, Rep c H t v bs → RX H t v bs ∧ ∀ p ∈ bs, c ≤ p.2
  | .at a, v, bs, h => by simp only [Rep, RX] at h ⊢; exact ⟨⟨h.1, h.2.1⟩, by simp [h.2.1]⟩
  | .sl n es full cs, v, bs, h => by
    simp only [Rep, RX] at h ⊢
    obtain ⟨b, ver, vs, bs', e1, e2, e3, e4, rfl⟩ := h
    obtain ⟨g1, g2⟩ := RXs.of cs e4
    exact ⟨⟨b, ver, vs, bs', e1, e3, g1, rfl⟩, fun p hp => (List.mem_append.1 hp).elim (g2 p) fun hp => by simp at hp; subst hp; exact e2⟩
  | .bx cs, v, bs, h => by
    simp only [Rep, RX] at h ⊢
    obtain ⟨b, ver, vs, bs', e1, e2, e3, e4, rfl⟩ := h
    obtain ⟨g1, g2⟩ := RXs.of cs e4
    exact ⟨⟨b, ver, vs, bs', e1, e3, g1, rfl⟩, fun p hp => (List.mem_append.1 hp).elim (g2 p) fun hp => by simp at hp; subst hp; exact e2⟩
  | .agg cs, v, bs, h => by
    simp only [Rep, RX] at h ⊢
    obtain ⟨vs, e1, e4⟩ := h
    obtain ⟨g1, g2⟩ := RXs.of cs e4
    exact ⟨⟨vs, e1, g1⟩, g2⟩
  | .tup cs, v, bs, h => by
    simp only [Rep, RX] at h ⊢
    obtain ⟨vs, e1, e4⟩ := h
    obtain ⟨g1, g2⟩ := RXs.of cs e4
    exact ⟨⟨vs, e1, g1⟩, g2⟩
theorem RXs.of {c : Nat} {H : Hp} : ∀ (l : List Tr) {vs : List AV} {bs : List (Nat × Nat)}, Reps c H l vs bs → RXs H l vs bs ∧ ∀ p ∈ bs, c ≤ p.2
  | [], vs, bs, h => by simp only [Reps, RXs] at h ⊢; exact ⟨h, by simp [h.2]⟩
  | t :: l, vs, bs, h => by
    simp only [Reps, RXs] at h ⊢
    obtain ⟨v, vs', b1, b2, e1, e2, e3, rfl⟩ := h
    obtain ⟨g1, g2⟩ := RX.of t e2
    obtain ⟨g3, g4⟩ := RXs.of l e3
    exact ⟨⟨v, vs', b1, b2, e1, g1, g3, rfl⟩, fun p hp => (List.mem_append.1 hp).elim (g2 p) (g4 p)⟩
end
mutual
theorem RX.rep {c : Nat} {H : Hp} : ∀ (t : Tr) {v : AV} {bs : List (Nat × Nat)}, okT c t = true → (∀ p ∈ bs, c ≤ p.2) → RX H t v bs → Rep c H t v bs
  | .at a, v, bs, ho, hb, h => by simp only [Rep, RX, okT] at h ho ⊢; exact ⟨h.1, h.2, ho⟩
  | .sl n es full cs, v, bs, ho, hb, h => by
    simp only [Rep, RX, okT] at h ho ⊢
    obtain ⟨b, ver, vs, bs', e1, e3, e4, rfl⟩ := h
    exact ⟨b, ver, vs, bs', e1, hb (b, ver) (by simp), e3, RXs.rep cs ho (fun p hp => hb p (by simp [hp])) e4, rfl⟩
  | .bx cs, v, bs, ho, hb, h => by
    simp only [Rep, RX, okT] at h ho ⊢
    obtain ⟨b, ver, vs, bs', e1, e3, e4, rfl⟩ := h
    exact ⟨b, ver, vs, bs', e1, hb (b, ver) (by simp), e3, RXs.rep cs ho (fun p hp => hb p (by simp [hp])) e4, rfl⟩
  | .agg cs, v, bs, ho, hb, h => by
    simp only [Rep, RX, okT] at h ho ⊢
    obtain ⟨vs, e1, e4⟩ := h
    exact ⟨vs, e1, RXs.rep cs ho hb e4⟩
  | .tup cs, v, bs, ho, hb, h => by
    simp only [Rep, RX, okT] at h ho ⊢
    obtain ⟨vs, e1, e4⟩ := h
    exact ⟨vs, e1, RXs.rep cs ho hb e4⟩
theorem RXs.rep {c : Nat} {H : Hp} : ∀ (l : List Tr) {vs : List AV} {bs : List (Nat × Nat)}, okTs c l = true → (∀ p ∈ bs, c ≤ p.2) → RXs H l vs bs → Reps c H l vs bs
  | [], vs, bs, ho, hb, h => by simpa only [Reps, RXs] using h
  | t :: l, vs, bs, ho, hb, h => by
    simp only [Reps, RXs, okTs, Bool.and_eq_true] at h ho ⊢
    obtain ⟨v, vs', b1, b2, e1, e2, e3, rfl⟩ := h
    exact ⟨v, vs', b1, b2, e1, RX.rep t ho.1 (fun p hp => hb p (by simp [hp])) e2, RXs.rep l ho.2 (fun p hp => hb p (by simp [hp])) e3, rfl⟩
end
mutual
theorem RX.live {H : Hp} : ∀ (t : Tr) {v : AV} {bs : List (Nat × Nat)}, RX H t v bs → ∀ p ∈ bs, ∃ cs, H.at p.1 p.2 = some ⟨p.2, cs, true, true⟩
  | .at a, v, bs, h => by simp only [RX] at h; simp [h.2]
  | .sl n es full cs, v, bs, h => by
    simp only [RX] at h
    obtain ⟨b, ver, vs, bs', e1, e3, e4, rfl⟩ := h
    intro p hp
    rcases List.mem_append.1 hp with hp | hp
    · exact RXs.live cs e4 p hp
    · simp at hp; subst hp; exact ⟨_, e3⟩
  | .bx cs, v, bs, h => by
    simp only [RX] at h
    obtain ⟨b, ver, vs, bs', e1, e3, e4, rfl⟩ := h
    intro p hp
    rcases List.mem_append.1 hp with hp | hp
    · exact RXs.live cs e4 p hp
    · simp at hp; subst hp; exact ⟨_, e3⟩
  | .agg cs, v, bs, h => by simp only [RX] at h; obtain ⟨vs, _, h⟩ := h; exact RXs.live cs h
  | .tup cs, v, bs, h => by simp only [RX] at h; obtain ⟨vs, _, h⟩ := h; exact RXs.live cs h
theorem RXs.live {H : Hp} : ∀ (l : List Tr) {vs : List AV} {bs : List (Nat × Nat)}, RXs H l vs bs → ∀ p ∈ bs, ∃ cs, H.at p.1 p.2 = some ⟨p.2, cs, true, true⟩
  | [], vs, bs, h => by simp only [RXs] at h; simp [h.2]
  | t :: l, vs, bs, h => by
    simp only [RXs] at h
    obtain ⟨v, vs', b1, b2, e1, e2, e3, rfl⟩ := h
    intro p hp
    exact (List.mem_append.1 hp).elim (RX.live t e2 p) (RXs.live l e3 p)
end
mutual
theorem RX.uniq {H : Hp} : ∀ (t : Tr) {v : AV} {b b' : List (Nat × Nat)}, RX H t v b → RX H t v b' → b = b'
  | .at a, v, b, b', h, k => by simp only [RX] at h k; rw [h.2, k.2]
  | .sl n es full cs, v, b, b', h, k => by
    simp only [RX] at h k
    obtain ⟨b0, ver, vs, bs', rfl, e3, e4, rfl⟩ := h
    obtain ⟨b1, ver1, vs1, bs1, e, f3, f4, rfl⟩ := k
    cases e
    rw [e3] at f3
    cases f3
    rw [RXs.uniq cs e4 f4]
  | .bx cs, v, b, b', h, k => by
    simp only [RX] at h k
    obtain ⟨b0, ver, vs, bs', rfl, e3, e4, rfl⟩ := h
    obtain ⟨b1, ver1, vs1, bs1, e, f3, f4, rfl⟩ := k
    cases e
    rw [e3] at f3
    cases f3
    rw [RXs.uniq cs e4 f4]
  | .agg cs, v, b, b', h, k => by
    simp only [RX] at h k
    obtain ⟨vs, rfl, h⟩ := h
    obtain ⟨vs', e, k⟩ := k
    cases e
    exact RXs.uniq cs h k
  | .tup cs, v, b, b', h, k => by
    simp only [RX] at h k
    obtain ⟨vs, rfl, h⟩ := h
    obtain ⟨vs', e, k⟩ := k
    cases e
    exact RXs.uniq cs h k
theorem RXs.uniq {H : Hp} : ∀ (l : List Tr) {vs : List AV} {b b' : List (Nat × Nat)}, RXs H l vs b → RXs H l vs b' → b = b'
  | [], vs, b, b', h, k => by simp only [RXs] at h k; rw [h.2, k.2]
  | t :: l, vs, b, b', h, k => by
    simp only [RXs] at h k
    obtain ⟨v, vs', b1, b2, rfl, e2, e3, rfl⟩ := h
    obtain ⟨v1, vs1, c1, c2, e, f2, f3, rfl⟩ := k
    cases e
    rw [RX.uniq t e2 f2, RXs.uniq l e3 f3]
end
theorem RXs.len {H : Hp} : ∀ (l : List Tr) {vs : List AV} {bs : List (Nat × Nat)}, RXs H l vs bs → vs.length = l.length := by
  intro l
  induction l with
  | nil => intro vs bs h; simp only [RXs] at h; rw [h.1]; rfl
  | cons t l ih =>
    intro vs bs h
    simp only [RXs] at h
    obtain ⟨v, vs', b1, b2, rfl, _, h2, _⟩ := h
    simp [ih h2]
theorem RXs.app {H : Hp} : ∀ (l m : List Tr) {vs : List AV} {bs : List (Nat × Nat)}, RXs H (l ++ m) vs bs ↔ ∃ v1 v2 b1 b2, vs = v1 ++ v2 ∧ bs = b1 ++ b2 ∧ RXs H l v1 b1 ∧ RXs H m v2 b2 := by
  intro l
  induction l with
  | nil =>
    intro m vs bs
    simp only [List.nil_append, RXs]
    constructor
    · intro h; exact ⟨[], vs, [], bs, rfl, rfl, ⟨rfl, rfl⟩, h⟩
    · rintro ⟨v1, v2, b1, b2, rfl, rfl, ⟨rfl, rfl⟩, h⟩; exact h
  | cons t l ih =>
    intro m vs bs
    simp only [List.cons_append, RXs]
    constructor
    · rintro ⟨v, vs', b1, b2, rfl, h1, h2, rfl⟩
      obtain ⟨v1, v2, b3, b4, rfl, rfl, h3, h4⟩ := (ih m).1 h2
      exact ⟨v :: v1, v2, b1 ++ b3, b4, rfl, by simp, ⟨v, v1, b1, b3, rfl, h1, h3, rfl⟩, h4⟩
    · rintro ⟨v1, v2, b3, b4, rfl, rfl, ⟨v, vs', b1, b2, rfl, h1, h2, rfl⟩, h4⟩
      exact ⟨v, vs' ++ v2, b1, b2 ++ b4, rfl, h1, (ih m).2 ⟨vs', v2, b2, b4, rfl, rfl, h2, h4⟩, by simp⟩
theorem RXs.leaves {H : Hp} : ∀ (l : List AV), RXs H (l.map .at) l [] := by
  intro l
  induction l with
  | nil => simp [RXs]
  | cons a l ih => simp only [List.map_cons, RXs, RX]; exact ⟨a, l, [], [], rfl, ⟨rfl, rfl⟩, ih, rfl⟩
/-- One of many. -/
theorem RXs.pick {H : Hp} : ∀ (ts : List Tr) {vs : List AV} {bs : List (Nat × Nat)}, RXs H ts vs bs → ∀ (i : Nat) (t : Tr), ts[i]? = some t → ∃ v b1 b b2, vs[i]? = some v ∧ bs = b1 ++ (b ++ b2) ∧ RX H t v b ∧
    (∀ (H' : Hp) (t' : Tr) (v' : AV) (b' : List (Nat × Nat)), RX H' t' v' b' → (∀ p, p ∈ b1 ∨ p ∈ b2 → Keeps H H' p.1 p.2) → RXs H' (ts.set i t') (vs.set i v') (b1 ++ (b' ++ b2))) ∧ RXs H (ts.eraseIdx i) (vs.eraseIdx i) (b1 ++ b2) := by
  intro ts
  induction ts with
  | nil => intro vs bs h i t hi; simp at hi
  | cons t0 ts ih =>
    intro vs bs h i t hi
    simp only [RXs] at h
    obtain ⟨v, vs', b1, b2, rfl, h1, h2, rfl⟩ := h
    cases i with
    | zero =>
      simp at hi; subst hi
      refine ⟨v, [], b1, b2, by simp, by simp, h1, fun H' t' v' b' h' hk => ?_, by simpa using h2⟩
      simp only [List.set_cons_zero, RXs, List.nil_append]
      exact ⟨v', vs', b', b2, rfl, h', RXs.keep ts (fun p hp => hk p (.inr hp)) h2, rfl⟩
    | succ i =>
      obtain ⟨v1, c1, c, c2, g1, rfl, g3, g4, g5⟩ := ih h2 i t (by simpa using hi)
      refine ⟨v1, b1 ++ c1, c, c2, by simpa using g1, by simp, g3, fun H' t' v' b' h' hk => ?_, ?_⟩
      · simp only [List.set_cons_succ, RXs]
        exact ⟨v, vs'.set i v', b1, c1 ++ (b' ++ c2), rfl, RX.keep t0 (fun p hp => hk p (by simp [hp])) h1, g4 H' t' v' b' h' (fun p hp => hk p (hp.elim (fun h => .inl (by simp [h])) .inr)), by simp⟩
      · simp only [List.eraseIdx_cons_succ, RXs]
        exact ⟨v, vs'.eraseIdx i, b1, c1 ++ c2, rfl, h1, g5, by simp⟩
theorem erase_map {α β : Type} (f : α → β) : ∀ (l : List α) (i : Nat), (l.map f).eraseIdx i = (l.eraseIdx i).map f := by
  intro l
  induction l with
  | nil => intro i; simp
  | cons a l ih => intro i; cases i with | zero => simp | succ i => simp [ih]
theorem set_get {α : Type} {l : List α} {j : Nat} {x : α} (h : l[j]? = some x) : l.set j x = l := by
  refine List.ext_getElem? fun n => ?_
  by_cases hn : j = n
  · subst hn
    have := (List.getElem?_eq_some_iff.1 h).1
    rw [List.getElem?_set_self this, h]
  · rw [List.getElem?_set_ne hn]
/-! ### what lies in memory beside what came in -/
structure Bs where
  H : Hp
  A : List (Nat × Nat)
/-- What came in stands, but for what may be written. -/
structure Fm (B : Bs) (H : Hp) : Prop where
  pre : ∀ (b : Nat) (k : Blk), B.H.bs[b]? = some k → (b, k.ver) ∉ B.A → H.bs[b]? = some k
  wf : Wf H
  c : B.H.c ≤ H.c
  len : B.H.bs.length ≤ H.bs.length
abbrev Lo := List (AV × Tr)
structure SL (B : Bs) (L : Lo) (H : Hp) : Prop where
  w0 : Wf B.H
  fm : Fm B H
  rx : ∃ bs, RXs H (L.map Prod.snd) (L.map Prod.fst) bs ∧ bs.Nodup ∧ ∀ p ∈ bs, B.H.c ≤ p.2 ∨ p ∈ B.A
/-- A step that leaves all alone but bi. -/
structure Stp (bi : List (Nat × Nat)) (H H' : Hp) : Prop where
  k : ∀ b ver, (b, ver) ∉ bi → Keeps H H' b ver
  wf : Wf H'
  c : H.c ≤ H'.c
  len : H.bs.length ≤ H'.bs.length
section
variable {B : Bs} {L : Lo} {H : Hp}
theorem SL.ext (h : SL B L H) (hA : B.A = []) : Ext B.H H := ⟨fun b k hk => h.fm.pre b k hk (by simp [hA]), h.fm.wf, h.fm.c⟩
theorem Fm.step {bi : List (Nat × Nat)} {H' : Hp} (h0 : Wf B.H) (h : Fm B H) (hs : Stp bi H H') (hb : ∀ p ∈ bi, B.H.c ≤ p.2 ∨ p ∈ B.A) : Fm B H' := by
  refine ⟨fun b k hk hA => ?_, hs.wf, Nat.le_trans h.c hs.c, Nat.le_trans h.len hs.len⟩
  have h1 := h.pre b k hk hA
  have h2 : H.at b k.ver = some k := by simp [Hp.at, h1]
  have hlt := h0 b k hk
  have : (b, k.ver) ∉ bi := fun hm => by
    rcases hb _ hm with h | h
    · simp only at h; omega
    · exact hA h
  exact (Hp.at_some (hs.k b k.ver this k h2)).1
theorem lt_of_at (hw : Wf H) {b ver : Nat} {k : Blk} (h : H.at b ver = some k) : ver < H.c := at_lt hw h
theorem getE {α β : Type} {f : α → β} {l : List α} {i : Nat} {x : α} (h : l[i]? = some x) : (l.map f)[i]? = some (f x) := by simp [h]
theorem nodup_perm {a b : List (Nat × Nat)} (h : a.Nodup) (hp : ∀ x, a.count x = b.count x) : b.Nodup := (List.perm_iff_count.2 hp).nodup_iff.1 h
/-- One value is made another. -/
theorem SL.upd (h : SL B L H) (i : Nat) {u u' : AV} {t t' : Tr} {H' : Hp} (hi : L[i]? = some (u, t))
    (hs : ∀ bi, RX H t u bi → bi.Nodup → ∃ bi', RX H' t' u' bi' ∧ bi'.Nodup ∧ (∀ p ∈ bi', p ∈ bi ∨ H.c ≤ p.2) ∧ Stp bi H H') : SL B (L.set i (u', t')) H' := by
  obtain ⟨bs, h1, h2, h3⟩ := h.rx
  obtain ⟨v, b1, b, b2, g1, rfl, g3, g4, _⟩ := RXs.pick _ h1 i t (getE hi)
  have : v = u := by rw [getE hi] at g1; exact (Option.some.inj g1).symm
  subst this
  have hn := List.nodup_append.1 h2
  have hn2 := List.nodup_append.1 hn.2.1
  obtain ⟨b', r', n', f', st⟩ := hs b g3 hn2.1
  have hlive := RXs.live _ h1
  have hlt : ∀ p ∈ b1 ++ (b ++ b2), p.2 < H.c := fun p hp => by
    obtain ⟨cs, hcs⟩ := hlive p hp
    exact lt_of_at h.fm.wf hcs
  refine ⟨h.w0, h.fm.step h.w0 st (fun p hp => h3 p (by simp [hp])), b1 ++ (b' ++ b2), ?_, ?_, ?_⟩
  · rw [List.map_set, List.map_set]
    refine g4 H' t' u' b' r' fun p hp => st.k p.1 p.2 fun hm => ?_
    rcases hp with hp | hp
    · exact hn.2.2 p hp p (by simp [hm]) rfl
    · exact hn2.2.2 p hm p hp rfl
  · refine List.nodup_append.2 ⟨hn.1, List.nodup_append.2 ⟨n', hn2.2.1, ?_⟩, ?_⟩
    · intro x hx y hy e
      subst e
      rcases f' x hx with h | h
      · exact hn2.2.2 x h x hy rfl
      · have := hlt x (by simp [hy]); omega
    · intro x hx y hy e
      subst e
      rcases List.mem_append.1 hy with hy | hy
      · rcases f' x hy with h | h
        · exact hn.2.2 x hx x (by simp [h]) rfl
        · have := hlt x (by simp [hx]); omega
      · exact hn.2.2 x hx x (by simp [hy]) rfl
  · intro p hp
    rcases List.mem_append.1 hp with hp | hp
    · exact h3 p (by simp [hp])
    · rcases List.mem_append.1 hp with hp | hp
      · rcases f' p hp with h' | h'
        · exact h3 p (by simp [h'])
        · left; have := h.fm.c; omega
      · exact h3 p (by simp [hp])
/-- One value more. -/
theorem SL.push (h : SL B L H) {u : AV} {t : Tr} {H' : Hp} {b' : List (Nat × Nat)} (hr : RX H' t u b') (hn : b'.Nodup) (hf : ∀ p ∈ b', H.c ≤ p.2) (hs : Stp [] H H') : SL B ((u, t) :: L) H' := by
  obtain ⟨bs, h1, h2, h3⟩ := h.rx
  refine ⟨h.w0, h.fm.step h.w0 hs (by simp), b' ++ bs, ?_, ?_, ?_⟩
  · simp only [List.map_cons, RXs]
    exact ⟨u, _, b', bs, rfl, hr, RXs.keep _ (fun p _ => hs.k p.1 p.2 (by simp)) h1, rfl⟩
  · refine List.nodup_append.2 ⟨hn, h2, fun x hx y hy e => ?_⟩
    subst e
    obtain ⟨cs, hcs⟩ := RXs.live _ h1 x hy
    have := lt_of_at h.fm.wf hcs
    have := hf x hx
    omega
  · intro p hp
    rcases List.mem_append.1 hp with hp | hp
    · left; have := hf p hp; have := h.fm.c; omega
    · exact h3 p hp
theorem Stp.of {H' : Hp} (hp : Pre H H') (hw : Wf H') (hc : H.c ≤ H'.c) (hl : H.bs.length ≤ H'.bs.length) : Stp [] H H' := ⟨fun b ver _ => Keeps.pre hp b ver, hw, hc, hl⟩
theorem SL.erase (h : SL B L H) (i : Nat) : SL B (L.eraseIdx i) H := by
  cases hi : L[i]? with
  | none => rw [List.eraseIdx_of_length_le (by simpa using hi)]; exact h
  | some x =>
    obtain ⟨bs, h1, h2, h3⟩ := h.rx
    obtain ⟨v, b1, b, b2, g1, rfl, g3, _, g5⟩ := RXs.pick _ h1 i x.2 (getE hi)
    refine ⟨h.w0, h.fm, b1 ++ b2, by simpa only [erase_map] using g5, ?_, fun p hp => h3 p ?_⟩
    · have hn := List.nodup_append.1 h2
      have hn2 := List.nodup_append.1 hn.2.1
      exact List.nodup_append.2 ⟨hn.1, hn2.2.1, fun x hx y hy => hn.2.2 x hx y (by simp [hy])⟩
    · rcases List.mem_append.1 hp with hp | hp <;> simp [hp]
theorem SL.leaf (h : SL B L H) (a : AV) : SL B ((a, .at a) :: L) H :=
  h.push (b' := []) (by simp [RX]) List.nodup_nil (by simp) ⟨fun b ver _ => fun _ hk => hk, h.fm.wf, Nat.le_refl _, Nat.le_refl _⟩
theorem SL.isLeaf (h : SL B L H) {i : Nat} {v a : AV} (hi : L[i]? = some (v, .at a)) : v = a := by
  obtain ⟨bs, h1, h2, h3⟩ := h.rx
  obtain ⟨v', b1, b, b2, g1, rfl, g3, _, g5⟩ := RXs.pick _ h1 i _ (getE hi)
  rw [getE hi] at g1
  cases g1
  simp only [RX] at g3
  exact g3.1
/-- A value comes to the front. -/
theorem SL.front (h : SL B L H) {i : Nat} {x : AV × Tr} (hi : L[i]? = some x) : SL B (x :: L.eraseIdx i) H := by
  obtain ⟨bs, h1, h2, h3⟩ := h.rx
  obtain ⟨v, b1, b, b2, g1, rfl, g3, _, g5⟩ := RXs.pick _ h1 i x.2 (getE hi)
  rw [getE hi] at g1
  cases g1
  refine ⟨h.w0, h.fm, b ++ (b1 ++ b2), ?_, nodup_perm h2 (fun x => by simp only [List.count_append]; omega), fun p hp => h3 p ?_⟩
  · simp only [List.map_cons, RXs, ← erase_map]
    exact ⟨x.1, _, b, b1 ++ b2, rfl, g3, g5, rfl⟩
  · simp only [List.mem_append] at hp ⊢
    rcases hp with h | h | h <;> simp [h]
/-! ### structs and tuples are opened, and closed -/
theorem SL.openA (h : SL B L H) {i : Nat} {v : AV} {ts : List Tr} (hi : L[i]? = some (v, .agg ts)) : ∃ vs, v = .agg vs ∧ vs.length = ts.length ∧ SL B (vs.zip ts ++ L.eraseIdx i) H := by
  have h' := h.front hi
  obtain ⟨bs, h1, h2, h3⟩ := h'.rx
  simp only [List.map_cons, RXs, RX] at h1
  obtain ⟨v', vs', b1, b2, e, ⟨vs, rfl, hr⟩, hr2, rfl⟩ := h1
  cases e
  have hl := RXs.len _ hr
  refine ⟨vs, rfl, hl, h.w0, h.fm, b1 ++ b2, ?_, h2, h3⟩
  rw [List.map_append, List.map_append, List.map_fst_zip (by omega), List.map_snd_zip (by omega)]
  exact (RXs.app _ _).2 ⟨vs, _, b1, b2, rfl, rfl, hr, hr2⟩
theorem SL.openT (h : SL B L H) {i : Nat} {v : AV} {ts : List Tr} (hi : L[i]? = some (v, .tup ts)) : ∃ vs, v = .tup vs ∧ vs.length = ts.length ∧ SL B (vs.zip ts ++ L.eraseIdx i) H := by
  have h' := h.front hi
  obtain ⟨bs, h1, h2, h3⟩ := h'.rx
  simp only [List.map_cons, RXs, RX] at h1
  obtain ⟨v', vs', b1, b2, e, ⟨vs, rfl, hr⟩, hr2, rfl⟩ := h1
  cases e
  have hl := RXs.len _ hr
  refine ⟨vs, rfl, hl, h.w0, h.fm, b1 ++ b2, ?_, h2, h3⟩
  rw [List.map_append, List.map_append, List.map_fst_zip (by omega), List.map_snd_zip (by omega)]
  exact (RXs.app _ _).2 ⟨vs, _, b1, b2, rfl, rfl, hr, hr2⟩
theorem SL.closeA {es : Lo} (h : SL B (es ++ L) H) : SL B ((.agg (es.map Prod.fst), .agg (es.map Prod.snd)) :: L) H := by
  obtain ⟨bs, h1, h2, h3⟩ := h.rx
  rw [List.map_append, List.map_append] at h1
  obtain ⟨v1, v2, b1, b2, e, rfl, r1, r2⟩ := (RXs.app _ _).1 h1
  have hl := RXs.len _ r1
  obtain ⟨rfl, rfl⟩ := List.append_inj e (by simp at hl ⊢; omega)
  refine ⟨h.w0, h.fm, b1 ++ b2, ?_, h2, h3⟩
  simp only [List.map_cons, RXs, RX]
  exact ⟨_, _, b1, b2, rfl, ⟨_, rfl, r1⟩, r2, rfl⟩
theorem SL.closeT {es : Lo} (h : SL B (es ++ L) H) : SL B ((.tup (es.map Prod.fst), .tup (es.map Prod.snd)) :: L) H := by
  obtain ⟨bs, h1, h2, h3⟩ := h.rx
  rw [List.map_append, List.map_append] at h1
  obtain ⟨v1, v2, b1, b2, e, rfl, r1, r2⟩ := (RXs.app _ _).1 h1
  have hl := RXs.len _ r1
  obtain ⟨rfl, rfl⟩ := List.append_inj e (by simp at hl ⊢; omega)
  refine ⟨h.w0, h.fm, b1 ++ b2, ?_, h2, h3⟩
  simp only [List.map_cons, RXs, RX]
  exact ⟨_, _, b1, b2, rfl, ⟨_, rfl, r1⟩, r2, rfl⟩
/-! ### cells -/
def Tr.cs? : Tr → Option (List Tr)
  | .sl _ _ _ cs => some cs
  | .bx cs => some cs
  | _ => none
def Tr.wc (t : Tr) (cs : List Tr) : Tr := match t with
  | .sl n es f _ => .sl n es f cs
  | .bx _ => .bx cs
  | t => t
def Tr.hd (t : Tr) (b ver : Nat) : AV := match t with
  | .sl n es f _ => .sl b ver 0 n es f
  | _ => .ptr b ver 0
def blkOf : AV → Option (Nat × Nat)
  | .sl b ver _ _ _ _ => some (b, ver)
  | .ptr b ver _ => some (b, ver)
  | _ => none
theorem RX.cells {t : Tr} {cs : List Tr} (hc : t.cs? = some cs) {u : AV} {bs : List (Nat × Nat)} : RX H t u bs ↔ ∃ b ver vs bs', u = t.hd b ver ∧ H.at b ver = some ⟨ver, vs, true, true⟩ ∧ RXs H cs vs bs' ∧ bs = bs' ++ [(b, ver)] := by
  cases t <;> simp only [Tr.cs?, Option.some.injEq] at hc <;> first | (cases hc; done) | (subst hc; simp only [RX, Tr.hd])
theorem Tr.wc_cs {t : Tr} {cs : List Tr} (hc : t.cs? = some cs) (cs' : List Tr) : (t.wc cs').cs? = some cs' ∧ ∀ b ver, (t.wc cs').hd b ver = t.hd b ver := by
  cases t <;> simp only [Tr.cs?, Option.some.injEq] at hc <;> first | (cases hc; done) | (exact ⟨rfl, fun _ _ => rfl⟩)
theorem blk_hd {t : Tr} {b ver b' ver' : Nat} {u : AV} (h : u = t.hd b ver) (hu : blkOf u = some (b', ver')) : b = b' ∧ ver = ver' := by
  subst h
  cases t <;> simp only [Tr.hd, blkOf, Option.some.injEq, Prod.mk.injEq] at hu <;> exact hu
/-- What is read out of a value's cells. -/
theorem SL.cells (h : SL B L H) {i : Nat} {u : AV} {t : Tr} {cs : List Tr} (hi : L[i]? = some (u, t)) (hc : t.cs? = some cs) {b ver : Nat} (hu : blkOf u = some (b, ver)) : ∃ vs bs', H.at b ver = some ⟨ver, vs, true, true⟩ ∧ RXs H cs vs bs' := by
  obtain ⟨bs, h1, h2, h3⟩ := h.rx
  obtain ⟨v', b1, b', b2, g1, rfl, g3, _, g5⟩ := RXs.pick _ h1 i _ (getE hi)
  rw [getE hi] at g1
  cases g1
  obtain ⟨b0, ver0, vs, bs', e, g6, g7, _⟩ := (RX.cells hc).1 g3
  obtain ⟨rfl, rfl⟩ := blk_hd e hu
  exact ⟨vs, bs', g6, g7⟩
theorem RXs.leafAt : ∀ (ts : List Tr) {vs : List AV} {bs : List (Nat × Nat)}, RXs H ts vs bs → ∀ {j : Nat} {a : AV}, ts[j]? = some (.at a) → vs[j]? = some a := by
  intro ts vs bs h j a hj
  obtain ⟨v, b1, b, b2, g1, _, g3, _, _⟩ := RXs.pick _ h j _ hj
  simp only [RX] at g3
  rw [g1, g3.1]
def lvs : List Tr → Option (List AV)
  | [] => some []
  | .at a :: l => (lvs l).map (a :: ·)
  | _ => none
theorem lvs_some : ∀ {l : List Tr} {m : List AV}, lvs l = some m → l = m.map .at := by
  intro l
  induction l with
  | nil => intro m h; cases h; rfl
  | cons t l ih =>
    intro m h
    cases t with
    | «at» a =>
      simp only [lvs] at h
      obtain ⟨m', h1, rfl⟩ := Option.map_eq_some_iff.1 h
      rw [ih h1]; rfl
    | _ => simp only [lvs] at h; cases h
def ldT (T : Tab) (ty : Nat) (cs : List Tr) (j : Nat) : Option AV := match T ty with
  | none => none
  | some i => match i.d with
    | .struct _ | .array _ _ => if j + i.size ≤ cs.length then (lvs ((cs.drop j).take i.size)).map .agg else none
    | _ => match cs[j]? with | some (.at a) => some a | _ => none
theorem RXs.leafEq : ∀ (ts : List Tr) {vs : List AV} {bs : List (Nat × Nat)} {m : List AV}, RXs H ts vs bs → ts = m.map .at → vs = m := by
  intro ts
  induction ts with
  | nil => intro vs bs m h e; cases m with | nil => simp only [RXs] at h; exact h.1 | cons _ _ => cases e
  | cons t ts ih =>
    intro vs bs m h e
    cases m with
    | nil => cases e
    | cons a m =>
      simp only [List.map_cons, List.cons.injEq] at e
      obtain ⟨rfl, e⟩ := e
      simp only [RXs, RX] at h
      obtain ⟨v, vs', b1, b2, rfl, ⟨rfl, _⟩, h2, _⟩ := h
      rw [ih h2 e]
theorem RXs.dropTake (ts : List Tr) {vs : List AV} {bs : List (Nat × Nat)} (h : RXs H ts vs bs) (j n : Nat) : ∃ bs', RXs H ((ts.drop j).take n) ((vs.drop j).take n) bs' := by
  have hl := RXs.len _ h
  have e1 : ts = ts.take j ++ ts.drop j := (List.take_append_drop j ts).symm
  rw [e1] at h
  obtain ⟨v1, v2, b1, b2, rfl, rfl, r1, r2⟩ := (RXs.app _ _).1 h
  have hl1 := RXs.len _ r1
  have e2 : ts.drop j = (ts.drop j).take n ++ (ts.drop j).drop n := (List.take_append_drop n _).symm
  have hv : (v1 ++ v2).drop j = v2 := by
    have hl2 := RXs.len _ r2
    simp only [List.length_take, List.length_drop] at hl1 hl2
    by_cases hj : j ≤ ts.length
    · rw [List.drop_left' (by omega)]
    · rw [List.drop_of_length_le (by simp; omega)]
      exact (List.eq_nil_of_length_eq_zero (by omega)).symm
  rw [hv]
  rw [e2] at r2
  obtain ⟨w1, w2, c1, c2, rfl, rfl, q1, q2⟩ := (RXs.app _ _).1 r2
  have hm1 := RXs.len _ q1
  have hm2 := RXs.len _ q2
  have : (w1 ++ w2).take n = w1 := by
    simp only [List.length_take, List.length_drop] at hm1 hm2
    by_cases hn : n ≤ ts.length - j
    · rw [List.take_left' (by omega)]
    · have : w2 = [] := List.eq_nil_of_length_eq_zero (by omega)
      subst this
      rw [List.append_nil, List.take_of_length_le (by omega)]
  rw [this]
  exact ⟨c1, q1⟩
theorem SL.load (h : SL B L H) (i : Nat) {u : AV} {t : Tr} {cs : List Tr} (hi : L[i]? = some (u, t)) (hc : t.cs? = some cs) {b ver : Nat} (hu : blkOf u = some (b, ver)) {T : Tab} {ty j : Nat} {v : AV} (hl : ldT T ty cs j = some v) : aload T ty (.ptr b ver j) H = some v := by
  obtain ⟨vs, bs', h1, h2⟩ := h.cells hi hc hu
  have hlen := RXs.len _ h2
  unfold ldT at hl
  simp only [aload]
  cases hT : T ty with
  | none => rw [hT] at hl; cases hl
  | some ti =>
    rw [hT] at hl
    simp only [h1] at hl ⊢
    have agg : (if j + ti.size ≤ cs.length then (lvs ((cs.drop j).take ti.size)).map AV.agg else none) = some v → (if j + ti.size ≤ vs.length then some (AV.agg ((vs.drop j).take ti.size)) else none) = some v := by
      intro e
      split at e
      · rename_i hle
        obtain ⟨m, hm, rfl⟩ := Option.map_eq_some_iff.1 e
        obtain ⟨_, hd⟩ := RXs.dropTake _ h2 j ti.size
        rw [if_pos (by omega), RXs.leafEq _ hd (lvs_some hm)]
      · cases e
    have one : (match cs[j]? with | some (.at a) => some a | _ => none) = some v → vs[j]? = some v := by
      intro e
      split at e
      · rename_i a ha
        cases e
        exact RXs.leafAt _ h2 ha
      · cases e
    cases hd : ti.d <;> simp only [hd] at hl ⊢ <;> first | exact agg hl | exact one hl
def setT : List Tr → Nat → List AV → List Tr
  | l, _, [] => l
  | l, i, v :: vs => setT (l.set i (.at v)) (i + 1) vs
theorem RXs.setT {xs : List AV} : ∀ (ts : List Tr) {vs : List AV} {bs : List (Nat × Nat)} (j : Nat), RXs H ts vs bs → bs.Nodup → j + xs.length ≤ ts.length → ∃ bs', RXs H (Pq.setT ts j xs) (setAll vs j xs) bs' ∧ bs'.Nodup ∧ ∀ p ∈ bs', p ∈ bs := by
  induction xs with
  | nil => intro ts vs bs j h hn _; exact ⟨bs, h, hn, fun p hp => hp⟩
  | cons x xs ih =>
    intro ts vs bs j h hn hl
    simp only [List.length_cons] at hl
    have hj : ts[j]? = some ts[j] := List.getElem?_eq_getElem (by omega)
    obtain ⟨v, b1, b, b2, g1, rfl, g3, g4, _⟩ := RXs.pick _ h j _ hj
    have r := g4 H (.at x) x [] (by simp [RX]) (fun p _ _ hk => hk)
    have hn1 := List.nodup_append.1 hn
    have hn2 := List.nodup_append.1 hn1.2.1
    have n' : (b1 ++ ([] ++ b2)).Nodup := by
      simp only [List.nil_append]
      exact List.nodup_append.2 ⟨hn1.1, hn2.2.1, fun x hx y hy => hn1.2.2 x hx y (by simp [hy])⟩
    obtain ⟨bs', q1, q2, q3⟩ := ih _ (j + 1) r n' (by simp; omega)
    refine ⟨bs', q1, q2, fun p hp => ?_⟩
    have := q3 p hp
    simp only [List.nil_append, List.mem_append] at this ⊢
    rcases this with h | h <;> simp [h]
def stT (T : Tab) (ty : Nat) (cs : List Tr) (j : Nat) (x : AV) : Option (List Tr) := match T ty with
  | none => none
  | some i => if x.cells.length = i.size ∧ j + i.size ≤ cs.length ∧ x.cells.all AV.one = true then some (setT cs j x.cells) else none
theorem put_stp {b ver : Nat} {k : Blk} (hw : Wf H) (hk : H.at b ver = some k) (cs : List AV) (bi : List (Nat × Nat)) (hm : (b, ver) ∈ bi) : Stp bi H (H.put b ⟨ver, cs, true, true⟩) := by
  refine ⟨fun b' ver' hn => Keeps.put2 hk (fun e => hn (by rw [e]; exact hm)), fun i k' hi => ?_, Nat.le_refl _, by simp [Hp.put]⟩
  obtain ⟨g1, g2⟩ := Hp.at_some hk
  have hb := (List.getElem?_eq_some_iff.1 g1).1
  simp only [Hp.put] at hi ⊢
  by_cases hib : b = i
  · subst hib
    simp [hb] at hi
    subst hi
    have := hw b _ g1
    show ver < H.c
    omega
  · rw [List.getElem?_set_ne hib] at hi
    exact hw i k' hi
theorem SL.store (h : SL B L H) (i : Nat) {u : AV} {t : Tr} {cs cs' : List Tr} (hi : L[i]? = some (u, t)) (hc : t.cs? = some cs) {b ver : Nat} (hu : blkOf u = some (b, ver)) {T : Tab} {ty j : Nat} {x : AV} (hx : stT T ty cs j x = some cs') :
    ∃ H', astore T ty (.ptr b ver j) x H = some H' ∧ SL B (L.set i (u, t.wc cs')) H' := by
  obtain ⟨vs, bs', h1, h2⟩ := h.cells hi hc hu
  have hlen := RXs.len _ h2
  unfold stT at hx
  cases hT : T ty with
  | none => rw [hT] at hx; cases hx
  | some ti =>
    rw [hT] at hx
    simp only at hx
    split at hx
    rotate_left
    · cases hx
    rename_i hcond
    cases hx
    refine ⟨H.put b ⟨ver, setAll vs j x.cells, true, true⟩, ?_, h.upd i hi fun bi hr hn => ?_⟩
    · simp only [astore, hT, h1]
      rw [if_pos ⟨trivial, hcond.1, by omega, hcond.2.2⟩]
    · obtain ⟨b0, ver0, vs0, bs0, e, g6, g7, rfl⟩ := (RX.cells hc).1 hr
      obtain ⟨rfl, rfl⟩ := blk_hd e hu
      rw [h1] at g6
      cases g6
      have hn1 := List.nodup_append.1 hn
      obtain ⟨bs1, q1, q2, q3⟩ := RXs.setT (xs := x.cells) _ j g7 hn1.1 (by omega)
      obtain ⟨w1, w2⟩ := Tr.wc_cs hc (setT cs j x.cells)
      have hst := put_stp h.fm.wf h1 (setAll vs j x.cells) (bs0 ++ [(b0, ver0)]) (by simp)
      refine ⟨bs1 ++ [(b0, ver0)], (RX.cells w1).2 ⟨b0, ver0, setAll vs j x.cells, bs1, by rw [w2]; exact e, at_put_same h1 rfl, ?_, rfl⟩, ?_, fun p hp => .inl ?_, hst⟩
      · refine RXs.keep _ (fun p hp => Keeps.put2 h1 fun e => ?_) q1
        exact hn1.2.2 p (q3 p hp) (b0, ver0) (by simp) e
      · exact List.nodup_append.2 ⟨q2, by simp, fun x hx y hy => hn1.2.2 x (q3 x hx) y hy⟩
      · simp only [List.mem_append] at hp ⊢
        exact hp.imp (q3 p) id
/-- A cell's value becomes one of its own. -/
theorem SL.unfold (h : SL B L H) (i : Nat) {u : AV} {t tj : Tr} {cs : List Tr} (hi : L[i]? = some (u, t)) (hc : t.cs? = some cs) (j : Nat) (hj : cs[j]? = some tj) : ∃ v, SL B ((v, tj) :: L.set i (u, t.wc (cs.set j (.at v)))) H := by
  obtain ⟨bs, h1, h2, h3⟩ := h.rx
  obtain ⟨v, b1, b, b2, g1, rfl, g3, g4, _⟩ := RXs.pick _ h1 i t (getE hi)
  rw [getE hi] at g1
  cases g1
  obtain ⟨b0, ver0, vs0, bs0, e, g6, g7, rfl⟩ := (RX.cells hc).1 g3
  obtain ⟨x, c1, c, c2, k1, rfl, k3, k4, _⟩ := RXs.pick _ g7 j tj hj
  have r := k4 H (.at x) x [] (by simp [RX]) (fun p _ _ hk => hk)
  have hset : vs0.set j x = vs0 := set_get k1
  rw [hset] at r
  obtain ⟨w1, w2⟩ := Tr.wc_cs hc (cs.set j (.at x))
  have r2 := g4 H _ u (c1 ++ ([] ++ c2) ++ [(b0, ver0)]) ((RX.cells w1).2 ⟨b0, ver0, vs0, _, by rw [w2]; exact e, g6, r, rfl⟩) (fun p _ _ hk => hk)
  refine ⟨x, h.w0, h.fm, c ++ (b1 ++ (c1 ++ ([] ++ c2) ++ [(b0, ver0)] ++ b2)), ?_, nodup_perm h2 (fun x => by simp only [List.count_append, List.count_nil]; omega), fun p hp => h3 p ?_⟩
  · simp only [List.map_cons, RXs, List.map_set]
    exact ⟨x, _, c, _, rfl, k3, r2, rfl⟩
  · simp only [List.mem_append, List.nil_append] at hp ⊢
    rcases hp with h | h | ((h | h) | h) | h <;> simp [h]
/-- A value goes into its cell. -/
theorem SL.fold (h : SL B L H) (i j k : Nat) {u v : AV} {t tk : Tr} {cs : List Tr} (hi : L[i]? = some (u, t)) (hc : t.cs? = some cs) (hj : cs[j]? = some (.at v)) (hk : L[k]? = some (v, tk)) (hik : i ≠ k) : SL B ((L.set i (u, t.wc (cs.set j tk))).eraseIdx k) H := by
  obtain ⟨bs, h1, h2, h3⟩ := h.rx
  obtain ⟨u', b1, b, b2, g1, rfl, g3, g4, _⟩ := RXs.pick _ h1 i t (getE hi)
  rw [getE hi] at g1
  cases g1
  obtain ⟨b0, ver0, vs0, bs0, e, g6, g7, rfl⟩ := (RX.cells hc).1 g3
  obtain ⟨x, c1, c, c2, k1, rfl, k3, k4, _⟩ := RXs.pick _ g7 j _ hj
  simp only [RX] at k3
  obtain ⟨rfl, rfl⟩ := k3
  have hset : vs0.set j x = vs0 := set_get k1
  -- the value, out of the list
  have same := g4 H t u (c1 ++ ([] ++ c2) ++ [(b0, ver0)]) g3 (fun p _ _ hk => hk)
  have hsk : (L.map Prod.snd).set i t = L.map Prod.snd := by
    refine List.ext_getElem? fun n => ?_
    by_cases hn : i = n
    · subst hn
      have := (List.getElem?_eq_some_iff.1 hi).1
      rw [List.getElem?_set_self (by simpa using this), getE hi]
    · rw [List.getElem?_set_ne hn]
  have hkk : ((L.map Prod.snd).set i (t.wc (cs.set j tk)))[k]? = some tk := by rw [List.getElem?_set_ne hik, getE hk]
  -- the footprint of k
  obtain ⟨v', d1, d, d2, m1, m2, m3, m4, m5⟩ := RXs.pick _ h1 k tk (getE hk)
  rw [getE hk] at m1
  cases m1
  have r := k4 H tk x d m3 (fun p _ _ hk => hk)
  rw [hset] at r
  obtain ⟨w1, w2⟩ := Tr.wc_cs hc (cs.set j tk)
  have r2 := g4 H _ u (c1 ++ (d ++ c2) ++ [(b0, ver0)]) ((RX.cells w1).2 ⟨b0, ver0, vs0, _, by rw [w2]; exact e, g6, r, rfl⟩) (fun p _ _ hk => hk)
  obtain ⟨v', f1, f, f2, n1, n2, n3, n4, n5⟩ := RXs.pick _ r2 k tk hkk
  have hfp : ∀ y, (f1 ++ f2).count y + f.count y = (b1 ++ (c1 ++ (d ++ c2) ++ [(b0, ver0)] ++ b2)).count y := by
    intro y; rw [n2]; simp only [List.count_append]; omega
  have hmp : ∀ y, d1.count y + d.count y + d2.count y = b1.count y + (c1.count y + c2.count y + [(b0, ver0)].count y + b2.count y) := by
    intro y
    have := congrArg (List.count y) m2
    simp only [List.count_append, List.count_nil] at this
    omega
  -- two footprints of one value are the same
  have fd : ∀ y, f.count y = d.count y := by
    intro y
    have : v' = x := by
      rw [List.getElem?_set_ne hik, getE hk] at n1
      exact (Option.some.inj n1).symm
    subst this
    rw [RX.uniq tk n3 m3]
  refine ⟨h.w0, h.fm, f1 ++ f2, ?_, ?_, ?_⟩
  · rw [← erase_map, ← erase_map, List.map_set, List.map_set]
    exact n5
  · refine nodup_perm h2 fun y => ?_
    have e1 := hfp y
    have e2 := hmp y
    have e3 := fd y
    simp only [List.count_append, List.count_nil] at e1 ⊢
    omega
  · intro p hp
    refine h3 p ?_
    have hc1 : 0 < (f1 ++ f2).count p := List.count_pos_iff.2 hp
    have e1 := hfp p
    have e2 := hmp p
    have e3 := fd p
    refine List.count_pos_iff.1 ?_
    simp only [List.count_append, List.count_nil] at e1 hc1 ⊢
    omega
/-! ### new blocks -/
theorem SL.nil {H : Hp} (hw : Wf H) (A : List (Nat × Nat)) : SL ⟨H, A⟩ [] H := ⟨hw, ⟨fun _ _ h _ => h, hw, Nat.le_refl _, Nat.le_refl _⟩, [], by simp [RXs], List.nodup_nil, by simp⟩
theorem new_stp (hw : Wf H) (cells : List AV) : Stp [] H (H.new cells) := ⟨fun b ver _ k hk => at_new hk cells, hw.new cells, Nat.le_succ _, by simp [Hp.new]⟩
theorem SL.new (h : SL B L H) (t : Tr) (cells : List AV) (hc : t.cs? = some (cells.map .at)) : SL B ((t.hd H.bs.length H.c, t) :: L) (H.new cells) := by
  refine h.push (b' := [(H.bs.length, H.c)]) ((RX.cells hc).2 ⟨_, _, cells, [], rfl, new_at _ _, RXs.leaves _, rfl⟩) (by simp) (by simp) (new_stp h.fm.wf _)
mutual
theorem mk_rx : ∀ (t : Tr) {H : Hp}, Wf H → ∃ bs, RX (mk t H).2 t (mk t H).1 bs ∧ Fresh H.c (mk t H).2.c bs ∧ Ext H (mk t H).2
  | .at a, H, hw => ⟨[], by simp only [RX, mk]; exact ⟨trivial, trivial⟩, Fresh.nil _ _, Ext.refl hw⟩
  | .sl n es full cs, H, hw => by
    obtain ⟨bs, h1, h2, h3⟩ := mks_rx cs hw
    simp only [mk, RX]
    refine ⟨bs ++ [((mks cs H).2.bs.length, (mks cs H).2.c)], ⟨_, _, _, bs, rfl, new_at _ _, RXs.keep _ (fun p _ => Keeps.pre (Pre.new (Pre.refl _) _) p.1 p.2) h1, rfl⟩, ?_, h3.new _⟩
    exact h2.app (Fresh.one (Nat.le_refl _) (Nat.lt_succ_self _)) h3.c (Nat.le_succ _)
  | .bx cs, H, hw => by
    obtain ⟨bs, h1, h2, h3⟩ := mks_rx cs hw
    simp only [mk, RX]
    refine ⟨bs ++ [((mks cs H).2.bs.length, (mks cs H).2.c)], ⟨_, _, _, bs, rfl, new_at _ _, RXs.keep _ (fun p _ => Keeps.pre (Pre.new (Pre.refl _) _) p.1 p.2) h1, rfl⟩, ?_, h3.new _⟩
    exact h2.app (Fresh.one (Nat.le_refl _) (Nat.lt_succ_self _)) h3.c (Nat.le_succ _)
  | .agg cs, H, hw => by
    obtain ⟨bs, h1, h2, h3⟩ := mks_rx cs hw
    simp only [mk, RX]
    exact ⟨bs, ⟨_, rfl, h1⟩, h2, h3⟩
  | .tup cs, H, hw => by
    obtain ⟨bs, h1, h2, h3⟩ := mks_rx cs hw
    simp only [mk, RX]
    exact ⟨bs, ⟨_, rfl, h1⟩, h2, h3⟩
theorem mks_rx : ∀ (l : List Tr) {H : Hp}, Wf H → ∃ bs, RXs (mks l H).2 l (mks l H).1 bs ∧ Fresh H.c (mks l H).2.c bs ∧ Ext H (mks l H).2
  | [], H, hw => ⟨[], by simp only [RXs, mks]; exact ⟨trivial, trivial⟩, Fresh.nil _ _, Ext.refl hw⟩
  | t :: l, H, hw => by
    obtain ⟨b1, h1, h2, h3⟩ := mk_rx t hw
    obtain ⟨b2, g1, g2, g3⟩ := mks_rx l (H := (mk t H).2) h3.wf
    simp only [mks, RXs]
    exact ⟨b1 ++ b2, ⟨_, _, b1, b2, rfl, RX.keep t (fun p _ => Keeps.pre g3.pre p.1 p.2) h1, g1, rfl⟩, h2.app g2 h3.c g3.c, h3.trans g3⟩
end
mutual
theorem mk_len : ∀ (t : Tr) (H : Hp), H.bs.length ≤ (mk t H).2.bs.length
  | .at a, H => Nat.le_refl _
  | .sl n es full cs, H => by simp only [mk, Hp.new, List.length_append]; exact Nat.le_trans (mks_len cs H) (Nat.le_add_right _ _)
  | .bx cs, H => by simp only [mk, Hp.new, List.length_append]; exact Nat.le_trans (mks_len cs H) (Nat.le_add_right _ _)
  | .agg cs, H => mks_len cs H
  | .tup cs, H => mks_len cs H
theorem mks_len : ∀ (l : List Tr) (H : Hp), H.bs.length ≤ (mks l H).2.bs.length
  | [], H => Nat.le_refl _
  | t :: l, H => by simp only [mks]; exact Nat.le_trans (mk_len t H) (mks_len l _)
end
/-- What a call has handed back. -/
theorem SL.called (h : SL B L H) (t : Tr) : SL B (((Pq.mk t H).1, t) :: L) (Pq.mk t H).2 := by
  obtain ⟨bs, h1, h2, h3⟩ := mk_rx t h.fm.wf
  exact h.push h1 h2.1 (fun p hp => (h2.2 p hp).1) (Stp.of h3.pre h3.wf h3.c (mk_len t H))
/-! ### lists of numbers -/
def trInts : List Tr → Option (List Int)
  | [] => some []
  | .at (.int .i64 n) :: l => (trInts l).map (n :: ·)
  | _ => none
def numsT : Tr → Option (List Int)
  | .at .nilS => some []
  | .sl n es _ cs => if es = 1 ∧ n = cs.length ∧ n ≤ 1152921504606846976 then trInts cs else none
  | _ => none
theorem trInts_some : ∀ {cs : List Tr} {l : List Int}, trInts cs = some l → cs = trI l := by
  intro cs
  induction cs with
  | nil => intro l h; cases h; rfl
  | cons t cs ih =>
    intro l h
    unfold trInts at h
    split at h
    · rename_i e; cases e
    · rename_i n cs' e
      cases e
      obtain ⟨l', h1, rfl⟩ := Option.map_eq_some_iff.1 h
      rw [ih h1]; rfl
    · cases h
theorem trInts_I (l : List Int) : trInts (trI l) = some l := by
  induction l with
  | nil => rfl
  | cons a l ih => simp only [trI, List.map_cons, trInts] at ih ⊢; rw [ih]; rfl
theorem numsT_F {l : List Int} (h : l.length ≤ 1152921504606846976) : numsT (trF l) = some l := by
  simp only [trF, numsT]; rw [if_pos ⟨trivial, by simp [trI], h⟩, trInts_I]
theorem numsT_S {l : List Int} (h : l.length ≤ 1152921504606846976) : numsT (trS l) = some l := by
  unfold trS; split
  · rename_i e; subst e; rfl
  · simp only [numsT]; rw [if_pos ⟨trivial, by simp [trI], h⟩, trInts_I]
theorem numsT_C {l : List Int} (h : l.length ≤ 1152921504606846976) : numsT (trC l) = some l := by
  unfold trC; split
  · rename_i e; subst e; exact numsT_F h
  · exact numsT_S h
theorem RX.ints {t : Tr} {l : List Int} (hn : numsT t = some l) {u : AV} {bs : List (Nat × Nat)} (h : RX H t u bs) : Pq.ints H u = some l := by
  unfold numsT at hn
  split at hn
  · cases hn; simp only [RX] at h; rw [h.1]; rfl
  · rename_i n es f cs
    split at hn
    · rename_i hc
      obtain ⟨rfl, rfl, hb⟩ := hc
      have := trInts_some hn
      subst this
      simp only [RX] at h
      obtain ⟨b, ver, vs, bs', rfl, h1, h2, _⟩ := h
      have hv : vs = l.map (.int .i64) := RXs.leafEq _ h2 (by simp [trI])
      subst hv
      simp only [trI, List.length_map] at hb
      simp only [Pq.ints, trI, List.length_map, h1, List.drop_zero]
      rw [if_pos ⟨trivial, hb⟩, if_pos (by simp), List.take_of_length_le (by simp), toInts_map]
    · cases hn
  · cases hn
theorem SL.ints (h : SL B L H) (i : Nat) {u : AV} {t : Tr} {l : List Int} (hi : L[i]? = some (u, t)) (hn : numsT t = some l) : Pq.ints H u = some l := by
  obtain ⟨bs, h1, h2, h3⟩ := h.rx
  obtain ⟨v', b1, b', b2, g1, rfl, g3, _, g5⟩ := RXs.pick _ h1 i _ (getE hi)
  rw [getE hi] at g1
  cases g1
  exact RX.ints hn g3
/-- A number of an own list is written. -/
theorem SL.storeI (h : SL B L H) (i : Nat) {f : Bool} {u : AV} {l : List Int} (hi : L[i]? = some (u, trB f l)) {t : Nat} (ht : t = 3 ∨ t = 2) (j : Nat) (hj : j < l.length) (x : Int) :
    ∃ H', astore T t (pAt u j) (.int .i64 x) H = some H' ∧ SL B (L.set i (u, trB f (l.set j x))) H' := by
  obtain ⟨bs, h1, h2, h3⟩ := h.rx
  obtain ⟨v', b1, b', b2, g1, e, g3, _, g5⟩ := RXs.pick _ h1 i _ (getE hi)
  rw [getE hi] at g1
  cases g1
  have hr := RX.rep (c := 0) _ (by cases f <;> simp [trB, okT_F, okT_S]) (by simp) g3
  obtain ⟨H', e1, e2, e3, e4, e5⟩ := rep_store ht hr j hj x
  have hx := e4 ⟨[], 0⟩ (by intro b k hk; simp at hk) ⟨by intro b k hk; simp at hk, h.fm.wf, Nat.zero_le _⟩ (Nat.le_refl _)
  refine ⟨H', e1, h.upd i hi fun bi hr1 hn => ?_⟩
  have : bi = b' := RX.uniq _ hr1 g3
  subst this
  have hlen : H.bs.length ≤ H'.bs.length := by
    have : H'.bs.length = H.bs.length := by
      unfold astore at e1
      split at e1
      · split at e1
        · split at e1
          · cases e1; simp [Hp.put]
          · cases e1
        · cases e1
      · cases e1
    omega
  exact ⟨bi, (RX.of _ e2).1, hn, fun p hp => .inl hp, e3, hx.wf, by omega, hlen⟩
/-! ### append -/
theorem aapp_core {t e es n m : Nat} {ie : TI} {u y : AV} {cs : List Tr} {xs : List AV} {bi : List (Nat × Nat)} (hw : Wf H) (hD : T.d t = .slice e) (hT : T e = some ie) (hes : ie.size = es) (hb0 : ie.bytes ≠ 0) (hu : RX H (trG n es cs) u bi)
    (hy : slCells H y = some (m, xs)) (hcs : cs.length = n * es) (hxl : xs.length = m * es) (hm : m ≠ 0) (hl : (n + m) * ie.bytes ≤ maxBytes) :
    ∃ u' H' ci b', aapp T false t t u y H = some (u', H') ∧ (∀ x, ci.count x ≤ bi.count x) ∧ (∀ p ∈ ci, p ∈ bi) ∧ Stp bi H H' ∧ H.c < H'.c ∧
      ∀ xt cx, RXs H xt xs cx → (∀ p ∈ cx, p ∉ bi) → bi.Nodup → RX H' (trG (n + m) es (cs ++ xt)) u' (ci ++ cx ++ [(b', H.c)]) := by
  have hnm : n + m ≠ 0 := by omega
  by_cases hn : n = 0
  · subst hn
    have hcs0 : cs = [] := List.eq_nil_of_length_eq_zero (by simpa using hcs)
    subst hcs0
    simp only [trG, if_true, RX] at hu
    obtain ⟨rfl, rfl⟩ := hu
    refine ⟨.sl H.bs.length H.c 0 m es false, H.new xs, [], H.bs.length, ?_, by simp, by simp, new_stp hw xs, Nat.lt_succ_self _, fun xt cx hx _ _ => ?_⟩
    · simp only [aapp, hD, hT, Option.bind_some, aappend, hy, hes]
      rw [if_neg (by simp [hxl]), if_neg hm, if_pos ⟨by simpa using hl, hb0⟩]
    · rw [Nat.zero_add]
      simp only [trG, if_neg hm, RX, List.nil_append]
      exact ⟨_, _, xs, cx, rfl, new_at _ _, RXs.keep _ (fun p _ _ hk => at_new hk xs) hx, rfl⟩
  · simp only [trG, if_neg hn, RX] at hu
    obtain ⟨b, ver, vs, ci, rfl, hk, hr, rfl⟩ := hu
    have hvl := RXs.len _ hr
    obtain ⟨g1, g2⟩ := Hp.at_some hk
    have hb := (List.getElem?_eq_some_iff.1 g1).1
    have hst : Stp (ci ++ [(b, ver)]) H ⟨H.bs.set b ⟨H.c, vs ++ xs, true, true⟩, H.c + 1⟩ := by
      refine ⟨fun b1 v1 hne k hk1 => ?_, fun i k' hi => ?_, Nat.le_succ _, by simp⟩
      · have hbb : b1 ≠ b := by
          rintro rfl
          obtain ⟨q1, q2⟩ := Hp.at_some hk1
          rw [g1] at q1
          cases q1
          exact hne (by rw [← q2]; simp)
        simp only [Hp.at] at hk1 ⊢
        rw [List.getElem?_set_ne (fun e => hbb e.symm)]
        exact hk1
      · by_cases hib : b = i
        · subst hib
          simp [hb] at hi
          subst hi
          exact Nat.lt_succ_self _
        · simp only [List.getElem?_set_ne hib] at hi
          exact Nat.lt_succ_of_lt (hw i k' hi)
    refine ⟨.sl b H.c 0 (n + m) es false, _, ci, b, ?_, fun x => by simp, fun p hp => by simp [hp], hst, Nat.lt_succ_self _, fun xt cx hx hd hnd => ?_⟩
    · simp only [aapp, hD, hT, Option.bind_some, aappend, hy, hk, hes]
      rw [if_neg (by simp [hxl]), if_neg hm, if_neg (by simp only [ne_eq, not_true_eq_false, false_or]; rw [hvl, hcs]; omega), if_neg (by simp), if_pos (by simp [hvl, hcs])]
      simp
    · simp only [trG, if_neg hnm, RX]
      have hnd' := List.nodup_append.1 hnd
      refine ⟨b, H.c, vs ++ xs, ci ++ cx, rfl, by simp [Hp.at, hb], (RXs.app _ _).2 ⟨vs, xs, ci, cx, rfl, rfl, ?_, ?_⟩, rfl⟩
      · refine RXs.keep _ (fun p hp k hk1 => ?_) hr
        have hpb : p.1 ≠ b := by
          intro e
          obtain ⟨q1, q2⟩ := Hp.at_some hk1
          rw [e, g1] at q1
          cases q1
          exact hnd'.2.2 p hp (b, ver) (by simp) (Prod.ext e q2.symm)
        simp only [Hp.at] at hk1 ⊢
        rw [List.getElem?_set_ne (fun e => hpb e.symm)]
        exact hk1
      · refine RXs.keep _ (fun p hp k hk1 => ?_) hx
        have hpb : p.1 ≠ b := by
          intro e
          obtain ⟨q1, q2⟩ := Hp.at_some hk1
          rw [e, g1] at q1
          cases q1
          exact hd p hp (List.mem_append_right _ (List.mem_singleton.2 (Prod.ext e q2.symm)))
        simp only [Hp.at] at hk1 ⊢
        rw [List.getElem?_set_ne (fun e => hpb e.symm)]
        exact hk1
/-- An appended list grows; what is appended goes into it. -/
theorem SL.app (h : SL B L H) (i k : Nat) {t e es n m : Nat} {ie : TI} {f : Bool} {u y : AV} {cs xt : List Tr} (hD : T.d t = .slice e) (hT : T e = some ie) (hes : ie.size = es) (hb0 : ie.bytes ≠ 0) (hi : L[i]? = some (u, trG n es cs)) (hk : L[k]? = some (y, .sl m es f xt)) (hik : i ≠ k)
    (hcs : cs.length = n * es) (hxl : xt.length = m * es) (hm : m ≠ 0) (hl : (n + m) * ie.bytes ≤ maxBytes) :
    ∃ u' H', aapp T false t t u y H = some (u', H') ∧ SL B ((L.set i (u', trG (n + m) es (cs ++ xt))).eraseIdx k) H' := by
  obtain ⟨bs, h1, h2, h3⟩ := h.rx
  obtain ⟨v', d1, bk, d2, m1, em, m3, _, _⟩ := RXs.pick _ h1 k _ (getE hk)
  rw [getE hk] at m1
  cases m1
  have m3' := m3
  simp only [RX] at m3'
  obtain ⟨by_, vy, xs, cx, rfl, hyk, hyr, rfl⟩ := m3'
  have hxl' := RXs.len _ hyr
  have hy : slCells H (.sl by_ vy 0 m es f) = some (m, xs) := by
    simp only [slCells, hyk]
    rw [if_pos (by omega), List.drop_zero, List.take_of_length_le (by omega)]
  obtain ⟨v', b1, bi, b2, g1, rfl, g3, g4, g5⟩ := RXs.pick _ h1 i _ (getE hi)
  rw [getE hi] at g1
  cases g1
  obtain ⟨u', H', ci, b', e1, e2, e3, e4, e5, e6⟩ := aapp_core h.fm.wf hD hT hes hb0 g3 hy hcs (by omega) hm hl
  have hcount : ∀ x, b1.count x + (bi.count x + b2.count x) = d1.count x + (cx.count x + [(by_, vy)].count x + d2.count x) := by
    intro x
    have := congrArg (List.count x) em
    simpa only [List.count_append] using this
  have hone : ∀ x, b1.count x + (bi.count x + b2.count x) ≤ 1 := by
    intro x
    have := List.nodup_iff_count.1 h2 x
    simpa only [List.count_append] using this
  -- k is another one
  have hki : ∀ p ∈ cx ++ [(by_, vy)], p ∉ bi := by
    intro p hp hpi
    have hkk : ((L.map Prod.snd).set i (.at .bad))[k]? = some (.sl m es f xt) := by rw [List.getElem?_set_ne hik, getE hk]
    have r0 := g4 H (.at .bad) .bad [] (by simp [RX]) (fun p _ _ hk => hk)
    obtain ⟨v', f1, ff, f2, n1, n2, n3, _, _⟩ := RXs.pick _ r0 k _ hkk
    rw [List.getElem?_set_ne hik, getE hk] at n1
    cases n1
    rw [RX.uniq _ n3 m3] at n2
    have e0 := congrArg (List.count p) n2
    simp only [List.count_append, List.nil_append] at e0
    have h4 : 0 < (cx ++ [(by_, vy)]).count p := List.count_pos_iff.2 hp
    have h5 : 0 < bi.count p := List.count_pos_iff.2 hpi
    have h6 := hone p
    simp only [List.count_append] at h4
    omega
  have hbn : bi.Nodup := List.nodup_iff_count.2 fun x => by have := hone x; omega
  have hr := e6 xt cx hyr (fun p hp => hki p (by simp [hp])) hbn
  have r2 := g4 H' _ u' _ hr (fun p hp => e4.k p.1 p.2 fun hm => by
    have h6 := hone p
    have h5 : 0 < bi.count p := List.count_pos_iff.2 hm
    rcases hp with hp | hp
    · have : 0 < b1.count p := List.count_pos_iff.2 hp
      omega
    · have : 0 < b2.count p := List.count_pos_iff.2 hp
      omega)
  have hkk : ((L.map Prod.snd).set i (trG (n + m) es (cs ++ xt)))[k]? = some (.sl m es f xt) := by rw [List.getElem?_set_ne hik, getE hk]
  obtain ⟨v', f1, ff, f2, n1, n2, n3, n4, n5⟩ := RXs.pick _ r2 k _ hkk
  rw [List.getElem?_set_ne hik, getE hk] at n1
  cases n1
  have m4 := RX.keep _ (fun p hp => e4.k p.1 p.2 (hki p hp)) m3
  rw [RX.uniq _ n3 m4] at n2
  have hc2 : ∀ x, f1.count x + f2.count x + (cx.count x + [(by_, vy)].count x) = b1.count x + (ci.count x + cx.count x + [(b', H.c)].count x + b2.count x) := by
    intro x
    have := congrArg (List.count x) n2
    simp only [List.count_append] at this
    omega
  have hlt : ∀ p, 0 < b1.count p + (bi.count p + b2.count p) → p.2 < H.c := by
    intro p hp
    have : p ∈ b1 ++ (bi ++ b2) := List.count_pos_iff.1 (by simpa only [List.count_append] using hp)
    obtain ⟨cs', hcs'⟩ := RXs.live _ h1 p this
    exact lt_of_at h.fm.wf hcs'
  refine ⟨u', H', e1, h.w0, h.fm.step h.w0 e4 (fun p hp => h3 p (by simp [hp])), f1 ++ f2, ?_, ?_, ?_⟩
  · rw [← erase_map, ← erase_map, List.map_set, List.map_set]
    exact n5
  · refine List.nodup_iff_count.2 fun x => ?_
    have c1 := hc2 x
    have c2 := hone x
    have c3 := e2 x
    have c4 := hlt x
    simp only [List.count_append]
    by_cases hx : x = (b', H.c)
    · subst hx
      have : ¬ 0 < b1.count (b', H.c) + (bi.count (b', H.c) + b2.count (b', H.c)) := fun h => by have := c4 h; simp only at this; omega
      have e7 : [(b', H.c)].count (b', H.c) = 1 := by simp
      omega
    · have e7 : [(b', H.c)].count x = 0 := by simp [List.count_eq_zero, hx]
      omega
  · intro p hp
    have c1 := hc2 p
    have c3 := e2 p
    have h0 : 0 < (f1 ++ f2).count p := List.count_pos_iff.2 hp
    simp only [List.count_append] at h0
    by_cases hx : p = (b', H.c)
    · left; rw [hx]; exact h.fm.c
    · have e7 : [(b', H.c)].count p = 0 := by simp [List.count_eq_zero, hx]
      refine h3 p (List.count_pos_iff.1 ?_)
      simp only [List.count_append]
      omega
end
/- Walking rules over what a function has made: the memory is not in sight. -/
inductive Zt where
  | fin (Q : Ex → Sl → Hp → Prop)
  | seq (b : Cc) (k : Zt)
  | blk (id : Nat) (k : Zt)
  | loop (I : Nat → Sl → Lo → Prop) (m : Nat) (k : Zt)
def Zt.den (B : Bs) : Zt → Ct
  | .fin Q => .fin Q
  | .seq b k => .seq b (k.den B)
  | .blk id k => .blk id (k.den B)
  | .loop I m k => .loop (fun m s H => ∃ L, SL B L H ∧ I m s L) m (k.den B)
structure Z (E : Env) (B : Bs) (c : Cc) (s : Sl) (L : Lo) (k : Zt) : Prop where out : ∀ H, SL B L H → Y E T c s H (k.den B)
structure ZK (E : Env) (B : Bs) (k : Zt) (x : Ex) (s : Sl) (L : Lo) : Prop where out : ∀ H, SL B L H → K E T (k.den B) x s H
/-- Operations to come; with what was gone through, where a region draws its order. -/
inductive Md where
  | no
  | yes (full : List Co) (rs : List (Nat × Nat)) (tr : List (Sl × Lo))
def Md.add (m : Md) (s : Sl) (L : Lo) : Md := match m with
  | .no => .no
  | .yes f rs tr => .yes f rs (tr ++ [(s, L)])
def Fits (B : Bs) : List (Sl × Lo) → List (Sl × Hp) → Prop
  | [], [] => True
  | p :: tr, q :: th => q.1 = p.1 ∧ SL B p.2 q.2 ∧ Fits B tr th
  | _, _ => False
structure ZL (E : Env) (B : Bs) (m : Md) (sh : Bool) (l : List Co) (s : Sl) (L : Lo) (k : Zt) : Prop where
  out : ∀ H, SL B L H → match m with
    | .no => YL E T sh l s H (k.den B)
    | .yes f rs tr => ∀ th, Fits B tr th → YT E T sh f rs l s H th (k.den B)
section
variable {E : Env} {B : Bs} {s : Sl} {L : Lo} {k : Zt} {m : Md}
theorem zStart {c : Cc} {H : Hp} {Q : Ex → Sl → Hp → Prop} (hS : SL B L H) (h : Z E B c s L (.fin Q)) : Y E T c s H (.fin Q) := h.out H hS
theorem zSeq {a b} (h : Z E B a s L (.seq b k)) : Z E B (.seq a b) s L k := ⟨fun H hS => goSeq (h.out H hS)⟩
theorem zReg {sh l} (h : ZL E B .no sh l s L k) : Z E B (.reg sh l) s L k := ⟨fun H hS => goReg (h.out H hS)⟩
theorem zDrw {sh l rs} (h : ZL E B (.yes l rs []) sh l s L k) : Z E B (.drw sh l rs) s L k := ⟨fun H hS => goDrw (h.out H hS [] trivial)⟩
theorem zSkip (h : ZK E B k .norm s L) : Z E B .skip s L k := ⟨fun H hS => goSkip (h.out H hS)⟩
theorem zBlock {id b} (h : Z E B b s L (.blk id k)) : Z E B (.block id b) s L k := ⟨fun H hS => goBlock (h.out H hS)⟩
theorem zExit {i} (h : ZK E B k (.exit i) s L) : Z E B (.exit i) s L k := ⟨fun H hS => goExit (h.out H hS)⟩
theorem zRet (h : ZK E B k .ret s L) : Z E B .ret s L k := ⟨fun H hS => goRet (h.out H hS)⟩
theorem zSeqN {b} (h : Z E B b s L k) : ZK E B (.seq b k) .norm s L := ⟨fun H hS => goSeqN (h.out H hS)⟩
theorem zSeqR {b} (h : ZK E B k .ret s L) : ZK E B (.seq b k) .ret s L := ⟨fun H hS => goSeqR (h.out H hS)⟩
theorem zSeqE {b i} (h : ZK E B k (.exit i) s L) : ZK E B (.seq b k) (.exit i) s L := ⟨fun H hS => goSeqE (h.out H hS)⟩
theorem zBlkN {id} (h : ZK E B k .norm s L) : ZK E B (.blk id k) .norm s L := ⟨fun H hS => goBlkN (h.out H hS)⟩
theorem zBlkR {id} (h : ZK E B k .ret s L) : ZK E B (.blk id k) .ret s L := ⟨fun H hS => goBlkR (h.out H hS)⟩
theorem zBlkE {id} (h : ZK E B k .norm s L) : ZK E B (.blk id k) (.exit id) s L := ⟨fun H hS => goBlkE (h.out H hS)⟩
theorem zBlkX {id j : Nat} (hj : (j == id) = false) (h : ZK E B k (.exit j) s L) : ZK E B (.blk id k) (.exit j) s L := ⟨fun H hS => goBlkX hj (h.out H hS)⟩
theorem zLoopN {I : Nat → Sl → Lo → Prop} {m : Nat} (m' : Nat) (hm : m' < m) (h : I m' s L) : ZK E B (.loop I m k) .norm s L := ⟨fun H hS => goLoopN (k := k.den B) m' hm ⟨L, hS, h⟩⟩
theorem zLoopR {I m} (h : ZK E B k .ret s L) : ZK E B (.loop I m k) .ret s L := ⟨fun H hS => goLoopR (h.out H hS)⟩
theorem zLoopE {I m i} (h : ZK E B k (.exit i) s L) : ZK E B (.loop I m k) (.exit i) s L := ⟨fun H hS => goLoopE (h.out H hS)⟩
theorem zLoop {lv b} (I : Nat → Sl → Lo → Prop) (m : Nat) (h0 : I m s L) (h : ∀ m s1 L1, I m s1 L1 → Z E B b (cutSl lv s1) L1 (.loop I m k)) : Z E B (.loop lv false b) s L k :=
  ⟨fun H hS => goLoop (fun m s H => ∃ L, SL B L H ∧ I m s L) m ⟨L, hS, h0⟩ fun m s1 H1 ⟨L1, hS1, hI⟩ => (h m s1 L1 hI).out H1 hS1⟩
/-- What is known is told otherwise. -/
theorem zG {L' : Lo} {c} (hg : ∀ H, SL B L H → SL B L' H) (h : Z E B c s L' k) : Z E B c s L k := ⟨fun H hS => h.out H (hg H hS)⟩
theorem zGL {L' : Lo} {sh l} (hg : ∀ H, SL B L H → SL B L' H) (h : ZL E B m sh l s L' k) : ZL E B m sh l s L k := ⟨fun H hS => h.out H (hg H hS)⟩
theorem zGK {L' : Lo} {x} (hg : ∀ H, SL B L H → SL B L' H) (h : ZK E B k x s L') : ZK E B k x s L := ⟨fun H hS => h.out H (hg H hS)⟩
theorem zML {sh l} (h : ∀ H, SL B L H → ZL E B m sh l s L k) : ZL E B m sh l s L k := ⟨fun H hS => (h H hS).out H hS⟩
theorem zMK {x} (h : ∀ H, SL B L H → ZK E B k x s L) : ZK E B k x s L := ⟨fun H hS => (h H hS).out H hS⟩
theorem zIfB {c a b t} (he : ev s c = .bool t) (h1 : t = true → Z E B a s L k) (h2 : t = false → Z E B b s L k) : Z E B (.cond c a b) s L k := ⟨fun H hS => goIfB he (fun e => (h1 e).out H hS) (fun e => (h2 e).out H hS)⟩
theorem zIfQ {c a b t q} (he : ev s c = q) (eq : q = .bool t) (h1 : t = true → Z E B a s L k) (h2 : t = false → Z E B b s L k) : Z E B (.cond c a b) s L k := zIfB (he.trans eq) h1 h2
theorem zIf {c a b p q} {_ : Decidable p} (he : ev s c = q) (eq : q = .bool (decide p)) (h1 : p → Z E B a s L k) (h2 : ¬p → Z E B b s L k) : Z E B (.cond c a b) s L k :=
  zIfB (he.trans eq) (fun h => h1 (of_decide_eq_true h)) (fun h => h2 (of_decide_eq_false h))
theorem zIfT {c a b} (he : ev s c = .bool true) (h1 : Z E B a s L k) : Z E B (.cond c a b) s L k := zIfB he (fun _ => h1) (fun h => by cases h)
theorem zIfF {c a b} (he : ev s c = .bool false) (h1 : Z E B b s L k) : Z E B (.cond c a b) s L k := zIfB he (fun h => by cases h) (fun _ => h1)
theorem zNil {sh} (h : ZK E B k .norm s L) : ZL E B .no sh [] s L k := ⟨fun H hS => goNil (h.out H hS)⟩
/-! ### operations -/
theorem zCore {sh d o l} (h : ∀ H, SL B L H → ∃ v H' L', xdo E T sh o s H = some (v, H') ∧ SL B L' H' ∧ ZL E B (m.add s L) sh l ((d, v) :: s) L' k) : ZL E B m sh (⟨some d, o, none⟩ :: l) s L k := by
  refine ⟨fun H hS => ?_⟩
  obtain ⟨v, H', L', e, hS', hz⟩ := h H hS
  cases m with
  | no => exact goOp (H' := H') e rfl (hz.out H' hS')
  | yes f rs tr =>
    intro th hf
    refine goTOp (H' := H') e rfl (hz.out H' hS' _ ?_)
    have key : ∀ (tr : List (Sl × Lo)) (th : List (Sl × Hp)), Fits B tr th → Fits B (tr ++ [(s, L)]) (th ++ [(s, H)]) := by
      intro tr
      induction tr with
      | nil => intro th h; cases th with | nil => exact ⟨rfl, hS, trivial⟩ | cons _ _ => exact h.elim
      | cons p tr ih => intro th h; cases th with | nil => exact h.elim | cons q th => exact ⟨h.1, h.2.1, ih th h.2.2⟩
    exact key tr th hf
theorem zCore0 {sh o l} (h : ∀ H, SL B L H → ∃ v H' L', xdo E T sh o s H = some (v, H') ∧ SL B L' H' ∧ ZL E B (m.add s L) sh l s L' k) : ZL E B m sh (⟨none, o, none⟩ :: l) s L k := by
  refine ⟨fun H hS => ?_⟩
  obtain ⟨v, H', L', e, hS', hz⟩ := h H hS
  cases m with
  | no => exact goOp0 (H' := H') e rfl (hz.out H' hS')
  | yes f rs tr =>
    intro th hf
    refine goTOp0 (H' := H') e rfl (hz.out H' hS' _ ?_)
    have key : ∀ (tr : List (Sl × Lo)) (th : List (Sl × Hp)), Fits B tr th → Fits B (tr ++ [(s, L)]) (th ++ [(s, H)]) := by
      intro tr
      induction tr with
      | nil => intro th h; cases th with | nil => exact ⟨rfl, hS, trivial⟩ | cons _ _ => exact h.elim
      | cons p tr ih => intro th h; cases th with | nil => exact h.elim | cons q th => exact ⟨h.1, h.2.1, ih th h.2.2⟩
    exact key tr th hf
/-- Is the guarded operation done? It is. -/
theorem zYes {sh d o l j want} (hg : get s j = .bool want) (h : ZL E B m sh (⟨some d, o, none⟩ :: l) s L k) : ZL E B m sh (⟨some d, o, some (j, want)⟩ :: l) s L k := by
  refine ⟨fun H hS => ?_⟩
  have h1 := h.out H hS
  cases m with
  | no =>
    refine ⟨?_⟩
    have := h1.out
    rw [XL_cons, XG_none] at this
    rw [XL_cons, XG_some j want _ _ hg]
    exact ⟨fun _ => this, fun hh => absurd rfl hh⟩
  | yes f rs tr =>
    intro th hf
    refine ⟨?_⟩
    have := (h1 th hf).out
    simp only [XT, XG_none] at this
    simp only [XT, XG_some j want _ _ hg]
    exact ⟨fun _ => this, fun hh => absurd rfl hh⟩
theorem zSkipOp {sh d o l g} (hg : ∀ yes no : Prop, no → XG g s yes no) (h : ZL E B (m.add s L) sh l ((d, .tup []) :: s) L k) : ZL E B m sh (⟨some d, o, g⟩ :: l) s L k := by
  refine ⟨fun H hS => ?_⟩
  have h1 := h.out H hS
  cases m with
  | no => exact ⟨by rw [XL_cons]; exact hg _ _ h1.out⟩
  | yes f rs tr =>
    intro th hf
    refine ⟨?_⟩
    have key : ∀ (tr : List (Sl × Lo)) (th : List (Sl × Hp)), Fits B tr th → Fits B (tr ++ [(s, L)]) (th ++ [(s, H)]) := by
      intro tr
      induction tr with
      | nil => intro th h; cases th with | nil => exact ⟨rfl, hS, trivial⟩ | cons _ _ => exact h.elim
      | cons p tr ih => intro th h; cases th with | nil => exact h.elim | cons q th => exact ⟨h.1, h.2.1, ih th h.2.2⟩
    have := (h1 _ (key tr th hf)).out
    simp only [XT]
    exact hg _ _ this
theorem zNo {sh d o l j want} (hg : get s j = .bool (!want)) (h : ZL E B (m.add s L) sh l ((d, .tup []) :: s) L k) : ZL E B m sh (⟨some d, o, some (j, want)⟩ :: l) s L k :=
  zSkipOp (fun yes no hn => by rw [XG_some j want _ _ hg]; exact ⟨fun hh => (by cases want <;> cases hh), fun _ => hn⟩) h
theorem zNoU {sh d o l j want cs} (hg : get s j = .tup cs) (h : ZL E B (m.add s L) sh l ((d, .tup []) :: s) L k) : ZL E B m sh (⟨some d, o, some (j, want)⟩ :: l) s L k :=
  zSkipOp (fun yes no hn => by simp only [XG, hg]; exact hn) h
theorem zSplitQ {sh d o l j want t q} (hg : get s j = q) (eq : q = .bool t) (h1 : t = true → ZL E B m sh (⟨d, o, some (j, want)⟩ :: l) s L k) (h2 : t = false → ZL E B m sh (⟨d, o, some (j, want)⟩ :: l) s L k) : ZL E B m sh (⟨d, o, some (j, want)⟩ :: l) s L k := by
  cases t
  · exact h2 rfl
  · exact h1 rfl
theorem zSplit {sh d o l j want p q} {_ : Decidable p} (hg : get s j = q) (eq : q = .bool (decide p)) (h1 : p → ZL E B m sh (⟨d, o, some (j, want)⟩ :: l) s L k) (h2 : ¬p → ZL E B m sh (⟨d, o, some (j, want)⟩ :: l) s L k) : ZL E B m sh (⟨d, o, some (j, want)⟩ :: l) s L k := by
  by_cases hp : p
  · exact h1 hp
  · exact h2 hp
/-- An operation that leaves the memory alone. -/
theorem zOp {sh d o l v} {q : Hp → Option (AV × Hp)} (e : ∀ H, SL B L H → Fm B H → xdo E T sh o s H = q H) (eq : ∀ H, q H = some (v, H)) (h : ZL E B (m.add s L) sh l ((d, v) :: s) L k) : ZL E B m sh (⟨some d, o, none⟩ :: l) s L k :=
  zCore fun H hS => ⟨v, H, L, (e H hS hS.fm).trans (eq H), hS, h⟩
theorem zLoad {sh d t a l v} (ad : AV) {b ver j : Nat} (ha : ev s a = ad) (hq : ad = .ptr b ver j) (i : Nat) {u : AV} {tr : Tr} {cs : List Tr} (hi : L[i]? = some (u, tr)) (hu : blkOf u = some (b, ver)) (hc : tr.cs? = some cs) (hl : ldT T t cs j = some v) (h : ZL E B (m.add s L) sh l ((d, v) :: s) L k) : ZL E B m sh (⟨some d, .load t a, none⟩ :: l) s L k :=
  zCore fun H hS => ⟨v, H, L, by rw [xdo_load, ha, hq, hS.load i hi hc hu hl]; rfl, hS, h⟩
theorem zStore {sh t a x l} (ad : AV) {b ver j : Nat} (ha : ev s a = ad) (hq : ad = .ptr b ver j) (i : Nat) {u v : AV} {tr : Tr} {cs cs' : List Tr} {L' : Lo} (hi : L[i]? = some (u, tr)) (hu : blkOf u = some (b, ver)) (hc : tr.cs? = some cs) (hx : ev s x = v) (hl : stT T t cs j v = some cs') (hL : L.set i (u, tr.wc cs') = L') (h : ZL E B (m.add s L) sh l s L' k) : ZL E B m sh (⟨none, .store t a x, none⟩ :: l) s L k :=
  zCore0 fun H hS => by
    obtain ⟨H', e, hS'⟩ := hS.store (x := v) i hi hc hu hl
    exact ⟨.bad, H', L', by rw [xdo_store, ha, hq, hx, e]; rfl, hL ▸ hS', h⟩
/-- A list of numbers that may be read: it came in, or it was made. -/
structure Num (B : Bs) (L : Lo) (u : AV) (l : List Int) : Prop where out : ∀ H, SL B L H → ints H u = some l
/-- What came in is read so. -/
structure Fz (B : Bs) (u : AV) (l : List Int) : Prop where out : ∀ H, Fm B H → ints H u = some l
theorem Num.fz {u l} (h : Fz B u l) : Num B L u l := ⟨fun H hS => h.out H hS.fm⟩
theorem Num.own (i : Nat) {u l t} (hi : L[i]? = some (u, t)) (hn : numsT t = some l) : Num B L u l := ⟨fun H hS => hS.ints i hi hn⟩
theorem zLoadI {sh d t a l} (ad : AV) {u : AV} {j : Int} {n : List Int} (ha : ev s a = ad) (hq : ad = pAt u j) (ht : t = 3 ∨ t = 2) (hn : Num B L u n) (h0 : 0 ≤ j) (h1 : j < n.length) (h : ZL E B (m.add s L) sh l ((d, .int .i64 (nth n j)) :: s) L k) : ZL E B m sh (⟨some d, .load t a, none⟩ :: l) s L k :=
  zCore fun H hS => ⟨_, H, L, by
    rw [xdo_load, ha, hq]
    rcases ht with rfl | rfl
    · rw [aload_nth T3 rfl (hn.out H hS) j h0 h1]; rfl
    · rw [aload_nth T2 rfl (hn.out H hS) j h0 h1]; rfl, hS, h⟩
theorem zStoreI {sh t a x l} (ad : AV) {u : AV} {j : Nat} {n : List Int} {f : Bool} {y : Int} {L' : Lo} (ha : ev s a = ad) (hq : ad = pAt u j) (ht : t = 3 ∨ t = 2) (i : Nat) (hi : L[i]? = some (u, trB f n)) (h1 : j < n.length) (hx : ev s x = .int .i64 y) (hL : L.set i (u, trB f (n.set j y)) = L') (h : ZL E B (m.add s L) sh l s L' k) : ZL E B m sh (⟨none, .store t a x, none⟩ :: l) s L k :=
  zCore0 fun H hS => by
    obtain ⟨H', e, hS'⟩ := hS.storeI i hi ht j h1 y
    exact ⟨.bad, H', L', by rw [xdo_store, ha, hq, hx, e]; rfl, hL ▸ hS', h⟩
theorem zAlloc {sh d e l} {ie : TI} (hT : T e = some ie) (h : ∀ b ver, ZL E B (m.add s L) sh l ((d, .ptr b ver 0) :: s) ((.ptr b ver 0, .bx (ie.zero.map .at)) :: L) k) : ZL E B m sh (⟨some d, .alloc e, none⟩ :: l) s L k :=
  zCore fun H hS => ⟨_, _, _, by simp only [xdo, aop, hT, Option.map_some], hS.new (.bx (ie.zero.map .at)) ie.zero rfl, h _ _⟩
theorem zBox {sh d e x l} {v : AV} (hx : ev s x = v) (h1 : v.cells.all AV.one = true) (h : ∀ b ver, ZL E B (m.add s L) sh l ((d, .ptr b ver 0) :: s) ((.ptr b ver 0, .bx (v.cells.map .at)) :: L) k) : ZL E B m sh (⟨some d, .box e x, none⟩ :: l) s L k :=
  zCore fun H hS => ⟨_, _, _, by simp only [xdo, aop, hx, h1, if_true], hS.new (.bx (v.cells.map .at)) v.cells rfl, h _ _⟩
theorem zBS {sh d t n ps l} {e : Nat} {ie : TI} {cells : List AV} (hD : T.d t = .slice e) (hT : T e = some ie) (hs : n * ie.size ≤ 16777216) (hc : afill (fun j => some (j * ie.size, ie.size)) (rep n ie.zero) (ps.toList.map fun p => (p.1, ev s p.2)) = some cells)
    (h : ∀ b ver, ZL E B (m.add s L) sh l ((d, .sl b ver 0 n ie.size true) :: s) ((.sl b ver 0 n ie.size true, .sl n ie.size true (cells.map .at)) :: L) k) : ZL E B m sh (⟨some d, .buildSlice t n ps, none⟩ :: l) s L k :=
  zCore fun H hS => ⟨_, _, _, by simp only [xdo, aop, hD, hT, Option.bind_some, hs, if_true, hc, Option.map_some], hS.new (.sl n ie.size true (cells.map .at)) cells rfl, h _ _⟩
/-- A call that makes something. -/
theorem zCall' {sh d f xs ts l} {g : Nat} {caps args : List AV} {F : List AV → Hp → Option (AV × Hp)} {t : Tr} (hf : ev s f = .func g caps) (ha : xs.toList.map (ev s) ++ caps = args) (hE : E g = some (.eff F)) (hF : ∀ H, SL B L H → Fm B H → F args H = some (mk t H)) (h : ∀ v, ZL E B .no sh l ((d, v) :: s) ((v, t) :: L) k) : ZL E B .no sh (⟨some d, .call ⟨.value f, xs, ts⟩, none⟩ :: l) s L k :=
  zCore fun H hS => ⟨_, _, _, by rw [xdo_call, hf]; simp only [acall, hE, Option.bind_some, ha, FSem.run]; exact hF H hS hS.fm, hS.called t, h _⟩
/-- A call that leaves the memory alone. -/
theorem zPure' {sh d f xs ts l} {g : Nat} {caps args : List AV} {F : List AV → Hp → Option AV} {v : AV} (hf : ev s f = .func g caps) (ha : xs.toList.map (ev s) ++ caps = args) (hE : E g = some (.pure F)) (hF : ∀ H, SL B L H → Fm B H → F args H = some v) (h : ZL E B .no sh l ((d, v) :: s) L k) : ZL E B .no sh (⟨some d, .call ⟨.value f, xs, ts⟩, none⟩ :: l) s L k :=
  zCore fun H hS => ⟨v, H, L, by rw [xdo_call, hf]; simp only [acall, hE, Option.bind_some, ha, FSem.run, hF H hS hS.fm, Option.map_some], hS, h⟩
/-- The rechecks of a region that draws its order. -/
def AgainZ (E : Env) (B : Bs) (sh : Bool) (l : List Co) (tr : List (Sl × Lo)) : List (Nat × Nat) → Prop
  | [] => True
  | (q, k) :: rs => (match l[q]?, tr[q]?, tr[k]? with
    | some o, some (s, L), some (_, L') => XG o.g s (∃ v, (∀ H, SL B L H → (xdo E T sh o.o s H).map (·.1) = some v) ∧ ∀ H, SL B L' H → (xdo E T sh o.o s H).map (·.1) = some v) True
    | _, _, _ => False) ∧ AgainZ E B sh l tr rs
theorem Fits.at : ∀ {tr : List (Sl × Lo)} {th : List (Sl × Hp)}, Fits B tr th → ∀ (i : Nat) {p : Sl × Lo}, tr[i]? = some p → ∃ H, th[i]? = some (p.1, H) ∧ SL B p.2 H := by
  intro tr
  induction tr with
  | nil => intro th h i p hi; simp at hi
  | cons q tr ih =>
    intro th h i p hi
    cases th with
    | nil => exact h.elim
    | cons x th =>
      cases i with
      | zero => simp at hi; subst hi; exact ⟨x.2, by simp [← h.1], h.2.1⟩
      | succ i => simpa using ih h.2.2 i (by simpa using hi)
theorem AgainZ.sound {sh : Bool} {l : List Co} {tr : List (Sl × Lo)} {th : List (Sl × Hp)} (hf : Fits B tr th) : ∀ (rs : List (Nat × Nat)), AgainZ E B sh l tr rs → again E T sh l th rs := by
  intro rs
  induction rs with
  | nil => intro _; trivial
  | cons p rs ih =>
    intro h
    obtain ⟨q, k⟩ := p
    simp only [AgainZ] at h
    refine ⟨?_, ih h.2⟩
    have h1 := h.1
    split at h1
    · rename_i o s L s' L' e1 e2 e3
      obtain ⟨H1, g1, g2⟩ := hf.at q e2
      obtain ⟨H2, g3, g4⟩ := hf.at k e3
      simp only [e1, g1, g3]
      have key : ∀ (g : Option (Nat × Bool)) (s : Sl) (P Q : Prop), (P → Q) → XG g s P True → XG g s Q True := by
        intro g s P Q hpq hx
        unfold XG at hx ⊢
        split at hx
        · exact hpq hx
        · split at hx
          · exact ⟨fun e => hpq (hx.1 e), hx.2⟩
          · exact hx
          · exact hx
      refine key _ _ _ _ ?_ h1
      rintro ⟨v, v1, v2⟩
      rw [v1 H1 g2, v2 H2 g4]
    · exact h1.elim
theorem zNilT {sh full rs tr} (ha : AgainZ E B sh full (tr ++ [(s, L)]) rs) (h : ZK E B k .norm s L) : ZL E B (.yes full rs tr) sh [] s L k := by
  refine ⟨fun H hS => ?_⟩
  intro th hf
  have key : ∀ (tr : List (Sl × Lo)) (th : List (Sl × Hp)), Fits B tr th → Fits B (tr ++ [(s, L)]) (th ++ [(s, H)]) := by
    intro tr
    induction tr with
    | nil => intro th h; cases th with | nil => exact ⟨rfl, hS, trivial⟩ | cons _ _ => exact h.elim
    | cons p tr ih => intro th h; cases th with | nil => exact h.elim | cons q th => exact ⟨h.1, h.2.1, ih th h.2.2⟩
  exact goTNil (AgainZ.sound (key tr th hf) rs ha) (h.out H hS)
/-- The end of a walk: what is handed back is a tree. -/
theorem zEnd {H0 : Hp} {x : Ex} {rs : List ResultVar} {vs : List AV} {t : Tr} {r : AV} {Hr : Hp} (hx : x = .norm ∨ x = .ret) (e : ∀ H, SL ⟨H0, []⟩ L H → xres T s H rs = some vs) (hg : ∀ H, SL ⟨H0, []⟩ L H → ∃ L', SL ⟨H0, []⟩ ((xret vs, t) :: L') H) (hok : okT H0.c t = true) (hr : mk t H0 = (r, Hr)) :
    ZK E ⟨H0, []⟩ (.fin fun x s' H2 => (x = .norm ∨ x = .ret) ∧ ∃ vs js, xres T s' H2 rs = some vs ∧ Can H0 H2 Hr (xret vs) r js) x s L := by
  refine ⟨fun H hS => ?_⟩
  obtain ⟨L', hS'⟩ := hg H hS
  obtain ⟨bs, h1, h2, h3⟩ := hS'.rx
  simp only [List.map_cons, RXs] at h1
  obtain ⟨v, vs', b1, b2, e1, r1, r2, rfl⟩ := h1
  cases e1
  have hrep := RX.rep (c := H0.c) t hok (fun p hp => (h3 p (by simp [hp])).elim id (fun h => by simp at h)) r1
  have hx' := hS.ext rfl
  refine goEndR (d := H.c) hS.w0 hx'.pre hrep ⟨(List.nodup_append.1 h2).1, fun p hp => ⟨(h3 p (by simp [hp])).elim id (fun h => by simp at h), ?_⟩⟩ hx (e H hS) rfl hr
  obtain ⟨cs, hcs⟩ := RX.live t r1 p hp
  exact lt_of_at hx'.wf hcs
/-- The end of a walk that hands back nothing new. -/
theorem zEndP {H0 : Hp} {x : Ex} {rs : List ResultVar} {vs : List AV} {r : AV} (hx : x = .norm ∨ x = .ret) (e : ∀ H, SL ⟨H0, []⟩ L H → xres T s H rs = some vs) (hr : (xret vs).rel H0.bs.length H0.c [] = r) :
    ZK E ⟨H0, []⟩ (.fin fun x s' H2 => (x = .norm ∨ x = .ret) ∧ ∃ vs js, xres T s' H2 rs = some vs ∧ Can H0 H2 H0 (xret vs) r js) x s L :=
  ⟨fun H hS => goEnd hS.w0 (hS.ext rfl).pre hx (e H hS) rfl hr⟩
end
end Go.Proofs.Ytokadkakmhfdeaa.Pq
