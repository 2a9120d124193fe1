/- What the proof of a statement of this seat rests on, part 7: PqCC, PqY2, PqX4, PqX5, PqXA, PqXB, PqWY, PqY1, PqY3, PqY4, PqZu, PqWE, PqWG, PqCD, PqY5, PqY6, PqY8, PqY7. -/
import Derived.Test.YtokadkakmhfdeaaMgSplitNumbers6
set_option linter.unusedVariables false
set_option linter.unusedSimpArgs false
set_option linter.unusedSectionVars false
namespace Go.Proofs.Ytokadkakmhfdeaa.Pq
open Go.RowKit
/- Functions in short form. -/
/-! parquetry/parquetryref1.Tensor (1 parameters; calls 100 parquetry/parquetryref1.Size, 101 parquetry/parquetryref1.Right) -/
def A84 : Ann := { drop := fun i => false }
noncomputable def c84 : Cc :=
  (.seq (.reg false [⟨some 1, (Op.box 40 (Operand.tmp 0)), none⟩,
    ⟨some 2, (Op.assign (Operand.const (Value.bool false))), none⟩])
  (.seq (.reg false [⟨some 3, (Op.fieldAddr 40 (Operand.tmp 1) 0), none⟩,
    ⟨some 4, (Op.load 22 (Operand.tmp 3)), none⟩,
    ⟨some 5, (Op.call { callee := (Callee.value (Operand.func 101)), args := #[(Operand.tmp 4)], argTypes := #[22] }), none⟩,
    ⟨some 6, (Op.move (Operand.tmp 5)), none⟩,
    ⟨some 7, (Op.fieldAddr 40 (Operand.tmp 1) 1), some (6, true)⟩,
    ⟨some 8, (Op.load 38 (Operand.tmp 7)), some (6, true)⟩,
    ⟨some 9, (Op.call { callee := (Callee.builtin Builtin.len), args := #[(Operand.tmp 8)], argTypes := #[38] }), some (6, true)⟩,
    ⟨some 10, (Op.fieldAddr 40 (Operand.tmp 1) 0), some (6, true)⟩,
    ⟨some 11, (Op.load 22 (Operand.tmp 10)), some (6, true)⟩,
    ⟨some 12, (Op.call { callee := (Callee.value (Operand.func 100)), args := #[(Operand.tmp 11)], argTypes := #[22] }), some (6, true)⟩,
    ⟨some 13, (Op.binOp BinOp.eql 3 (Operand.tmp 9) (Operand.tmp 12) 3), some (6, true)⟩,
    ⟨some 14, (Op.pick (Operand.tmp 6) (Operand.tmp 13) (Operand.const (Value.bool false))), none⟩,
    ⟨some 2, (Op.assign (Operand.tmp 14)), none⟩])
  .ret))
noncomputable def b84 : Code := Try.f84.body.getD .skip
theorem hb84 : Try.f84.body = some b84 := by kernel_rfl
theorem sh84 : shortC A84 b84 = c84 := by kernel_rfl
def rs84 : List ResultVar := [(ResultVar.tmp 2)]
theorem hr84 : Try.f84.results.toList = rs84 := by kernel_rfl
/-! parquetry/parquetryref4.number (2 parameters; calls 42 parquetry/parquetryref1.Index) -/
def A163 : Ann := { drop := fun i => false }
noncomputable def c163 : Cc :=
  (.seq (.reg false [⟨some 2, (Op.box 40 (Operand.tmp 0)), none⟩,
    ⟨some 4, (Op.assign (Operand.const (Value.int IntKind.i64 0))), none⟩])
  (.seq (.reg false [⟨some 5, (Op.fieldAddr 40 (Operand.tmp 2) 1), none⟩,
    ⟨some 6, (Op.load 38 (Operand.tmp 5)), none⟩,
    ⟨some 7, (Op.fieldAddr 40 (Operand.tmp 2) 0), none⟩,
    ⟨some 8, (Op.load 22 (Operand.tmp 7)), none⟩,
    ⟨some 9, (Op.move (Operand.tmp 1)), none⟩,
    ⟨some 10, (Op.call { callee := (Callee.value (Operand.func 42)), args := #[(Operand.tmp 8), (Operand.tmp 9)], argTypes := #[22, 22] }), none⟩,
    ⟨some 11, (Op.indexAddr 38 (Operand.tmp 6) (Operand.tmp 10)), none⟩,
    ⟨some 12, (Op.load 2 (Operand.tmp 11)), none⟩,
    ⟨some 4, (Op.assign (Operand.tmp 12)), none⟩])
  .ret))
noncomputable def b163 : Code := Try.f163.body.getD .skip
theorem hb163 : Try.f163.body = some b163 := by kernel_rfl
theorem sh163 : shortC A163 b163 = c163 := by kernel_rfl
def rs163 : List ResultVar := [(ResultVar.tmp 4)]
theorem hr163 : Try.f163.results.toList = rs163 := by kernel_rfl
/-! parquetry/parquetryref4.Slice (3 parameters; calls 41 parquetry/parquetryref1.Place, 70 parquetry/parquetryref1.Fill, 84 parquetry/parquetryref1.Tensor, 163 parquetry/parquetryref4.number) -/
def A135 : Ann := { live := fun i => if i = 6 then [1, 2, 3, 6, 33, 34] else if i = 13 then [1, 2, 3, 6, 9, 84, 85] else if i = 17 then [1, 2, 3, 6, 9, 10, 11, 84, 85, 92, 93] else [], drop := fun i => false }
noncomputable def c135 : Cc :=
  (.seq (.reg false [⟨some 3, (Op.box 40 (Operand.tmp 0)), none⟩,
    ⟨some 6, (Op.alloc 40), none⟩,
    ⟨some 7, (Op.assign (Operand.const (Value.int IntKind.i64 0))), none⟩])
  (.seq (.seq (.reg false [⟨some 13, (Op.load 40 (Operand.tmp 3)), none⟩,
    ⟨some 14, (Op.call { callee := (Callee.value (Operand.func 84)), args := #[(Operand.tmp 13)], argTypes := #[40] }), none⟩,
    ⟨some 15, (Op.unOp UnOp.not 4 (Operand.tmp 14)), none⟩])
  (.cond (Operand.tmp 15)
    (.seq (.reg false [⟨some 16, (Op.build 40 #[]), none⟩,
      ⟨none, (Op.store 40 (Operand.tmp 6) (Operand.tmp 16)), none⟩,
      ⟨some 7, (Op.assign (Operand.const (Value.int IntKind.i64 13))), none⟩])
    .ret)
    .skip))
  (.seq (.seq (.reg false [⟨some 17, (Op.move (Operand.tmp 1)), none⟩,
    ⟨some 18, (Op.call { callee := (Callee.builtin Builtin.len), args := #[(Operand.tmp 17)], argTypes := #[22] }), none⟩,
    ⟨some 19, (Op.fieldAddr 40 (Operand.tmp 3) 0), none⟩,
    ⟨some 20, (Op.load 22 (Operand.tmp 19)), none⟩,
    ⟨some 21, (Op.call { callee := (Callee.builtin Builtin.len), args := #[(Operand.tmp 20)], argTypes := #[22] }), none⟩,
    ⟨some 22, (Op.binOp BinOp.neq 3 (Operand.tmp 18) (Operand.tmp 21) 3), none⟩,
    ⟨some 23, (Op.move (Operand.tmp 22)), none⟩,
    ⟨some 24, (Op.move (Operand.tmp 2)), some (23, false)⟩,
    ⟨some 25, (Op.call { callee := (Callee.builtin Builtin.len), args := #[(Operand.tmp 24)], argTypes := #[22] }), some (23, false)⟩,
    ⟨some 26, (Op.fieldAddr 40 (Operand.tmp 3) 0), some (23, false)⟩,
    ⟨some 27, (Op.load 22 (Operand.tmp 26)), some (23, false)⟩,
    ⟨some 28, (Op.call { callee := (Callee.builtin Builtin.len), args := #[(Operand.tmp 27)], argTypes := #[22] }), some (23, false)⟩,
    ⟨some 29, (Op.binOp BinOp.neq 3 (Operand.tmp 25) (Operand.tmp 28) 3), some (23, false)⟩,
    ⟨some 30, (Op.pick (Operand.tmp 23) (Operand.const (Value.bool true)) (Operand.tmp 29)), none⟩])
  (.cond (Operand.tmp 30)
    (.seq (.reg false [⟨some 31, (Op.build 40 #[]), none⟩,
      ⟨none, (Op.store 40 (Operand.tmp 6) (Operand.tmp 31)), none⟩,
      ⟨some 7, (Op.assign (Operand.const (Value.int IntKind.i64 1))), none⟩])
    .ret)
    .skip))
  (.seq (.seq (.reg false [⟨some 32, (Op.move (Operand.tmp 1)), none⟩,
    ⟨some 33, (Op.call { callee := (Callee.builtin Builtin.len), args := #[(Operand.tmp 32)], argTypes := #[22] }), none⟩,
    ⟨some 34, (Op.move (Operand.const (Value.int IntKind.i64 0))), none⟩])
  (.block 0 (.loop [1, 2, 3, 6, 33, 34] false
    (.seq (.reg false [⟨some 35, (Op.binOp BinOp.lss 3 (Operand.tmp 34) (Operand.tmp 33) 3), none⟩])
    (.seq (.cond (Operand.tmp 35)
      .skip
      (.exit 0))
    (.seq (.block 1 (.seq (.reg false [⟨some 36, (Op.move (Operand.tmp 34)), none⟩,
      ⟨some 8, (Op.assign (Operand.tmp 36)), none⟩])
    (.seq (.reg false [⟨some 37, (Op.move (Operand.tmp 1)), none⟩,
      ⟨some 38, (Op.move (Operand.tmp 8)), none⟩,
      ⟨some 39, (Op.indexAddr 22 (Operand.tmp 37) (Operand.tmp 38)), none⟩,
      ⟨some 40, (Op.load 3 (Operand.tmp 39)), none⟩,
      ⟨some 41, (Op.binOp BinOp.lss 3 (Operand.tmp 40) (Operand.const (Value.int IntKind.i64 0)) 3), none⟩,
      ⟨some 42, (Op.move (Operand.tmp 41)), none⟩,
      ⟨some 43, (Op.move (Operand.tmp 2)), some (42, false)⟩,
      ⟨some 44, (Op.move (Operand.tmp 8)), some (42, false)⟩,
      ⟨some 45, (Op.indexAddr 22 (Operand.tmp 43) (Operand.tmp 44)), some (42, false)⟩,
      ⟨some 46, (Op.load 3 (Operand.tmp 45)), some (42, false)⟩,
      ⟨some 47, (Op.binOp BinOp.lss 3 (Operand.tmp 46) (Operand.const (Value.int IntKind.i64 0)) 3), some (42, false)⟩,
      ⟨some 48, (Op.pick (Operand.tmp 42) (Operand.const (Value.bool true)) (Operand.tmp 47)), none⟩,
      ⟨some 49, (Op.move (Operand.tmp 48)), none⟩,
      ⟨some 50, (Op.move (Operand.tmp 1)), some (49, false)⟩,
      ⟨some 51, (Op.move (Operand.tmp 8)), some (49, false)⟩,
      ⟨some 52, (Op.indexAddr 22 (Operand.tmp 50) (Operand.tmp 51)), some (49, false)⟩,
      ⟨some 53, (Op.load 3 (Operand.tmp 52)), some (49, false)⟩,
      ⟨some 54, (Op.fieldAddr 40 (Operand.tmp 3) 0), some (49, false)⟩,
      ⟨some 55, (Op.load 22 (Operand.tmp 54)), some (49, false)⟩,
      ⟨some 56, (Op.move (Operand.tmp 8)), some (49, false)⟩,
      ⟨some 57, (Op.indexAddr 22 (Operand.tmp 55) (Operand.tmp 56)), some (49, false)⟩,
      ⟨some 58, (Op.load 3 (Operand.tmp 57)), some (49, false)⟩,
      ⟨some 59, (Op.binOp BinOp.gtr 3 (Operand.tmp 53) (Operand.tmp 58) 3), some (49, false)⟩,
      ⟨some 60, (Op.pick (Operand.tmp 49) (Operand.const (Value.bool true)) (Operand.tmp 59)), none⟩,
      ⟨some 61, (Op.move (Operand.tmp 60)), none⟩,
      ⟨some 62, (Op.move (Operand.tmp 2)), some (61, false)⟩,
      ⟨some 63, (Op.move (Operand.tmp 8)), some (61, false)⟩,
      ⟨some 64, (Op.indexAddr 22 (Operand.tmp 62) (Operand.tmp 63)), some (61, false)⟩,
      ⟨some 65, (Op.load 3 (Operand.tmp 64)), some (61, false)⟩,
      ⟨some 66, (Op.fieldAddr 40 (Operand.tmp 3) 0), some (61, false)⟩,
      ⟨some 67, (Op.load 22 (Operand.tmp 66)), some (61, false)⟩,
      ⟨some 68, (Op.move (Operand.tmp 8)), some (61, false)⟩,
      ⟨some 69, (Op.indexAddr 22 (Operand.tmp 67) (Operand.tmp 68)), some (61, false)⟩,
      ⟨some 70, (Op.load 3 (Operand.tmp 69)), some (61, false)⟩,
      ⟨some 71, (Op.move (Operand.tmp 1)), some (61, false)⟩,
      ⟨some 72, (Op.move (Operand.tmp 8)), some (61, false)⟩,
      ⟨some 73, (Op.indexAddr 22 (Operand.tmp 71) (Operand.tmp 72)), some (61, false)⟩,
      ⟨some 74, (Op.load 3 (Operand.tmp 73)), some (61, false)⟩,
      ⟨some 75, (Op.binOp BinOp.sub 3 (Operand.tmp 70) (Operand.tmp 74) 3), some (61, false)⟩,
      ⟨some 76, (Op.binOp BinOp.gtr 3 (Operand.tmp 65) (Operand.tmp 75) 3), some (61, false)⟩,
      ⟨some 77, (Op.pick (Operand.tmp 61) (Operand.const (Value.bool true)) (Operand.tmp 76)), none⟩])
    (.cond (Operand.tmp 77)
      (.seq (.reg false [⟨some 78, (Op.build 40 #[]), none⟩,
        ⟨none, (Op.store 40 (Operand.tmp 6) (Operand.tmp 78)), none⟩,
        ⟨some 7, (Op.assign (Operand.const (Value.int IntKind.i64 1))), none⟩])
      .ret)
      .skip))))
    (.reg false [⟨some 79, (Op.binOp BinOp.add 3 (Operand.tmp 34) (Operand.const (Value.int IntKind.i64 1)) 3), none⟩,
      ⟨some 34, (Op.move (Operand.tmp 79)), none⟩])))))))
  (.seq (.reg false [⟨some 80, (Op.move (Operand.tmp 2)), none⟩,
    ⟨some 81, (Op.call { callee := (Callee.value (Operand.func 70)), args := #[(Operand.tmp 80), (Operand.const (Value.int IntKind.i64 0))], argTypes := #[22, 2] }), none⟩,
    ⟨some 9, (Op.alloc 40), none⟩,
    ⟨none, (Op.store 40 (Operand.tmp 9) (Operand.tmp 81)), none⟩])
  (.seq (.seq (.reg false [⟨some 82, (Op.fieldAddr 40 (Operand.tmp 9) 1), none⟩,
    ⟨some 83, (Op.load 38 (Operand.tmp 82)), none⟩,
    ⟨some 84, (Op.call { callee := (Callee.builtin Builtin.len), args := #[(Operand.tmp 83)], argTypes := #[38] }), none⟩,
    ⟨some 85, (Op.move (Operand.const (Value.int IntKind.i64 0))), none⟩])
  (.block 2 (.loop [1, 2, 3, 6, 9, 84, 85] false
    (.seq (.reg false [⟨some 86, (Op.binOp BinOp.lss 3 (Operand.tmp 85) (Operand.tmp 84) 3), none⟩])
    (.seq (.cond (Operand.tmp 86)
      .skip
      (.exit 2))
    (.seq (.block 3 (.seq (.reg false [⟨some 87, (Op.move (Operand.tmp 85)), none⟩,
      ⟨some 10, (Op.assign (Operand.tmp 87)), none⟩])
    (.seq (.reg false [⟨some 88, (Op.move (Operand.tmp 2)), none⟩,
      ⟨some 89, (Op.move (Operand.tmp 10)), none⟩,
      ⟨some 90, (Op.call { callee := (Callee.value (Operand.func 41)), args := #[(Operand.tmp 88), (Operand.tmp 89)], argTypes := #[22, 3] }), none⟩,
      ⟨some 11, (Op.assign (Operand.tmp 90)), none⟩])
    (.seq (.seq (.reg false [⟨some 91, (Op.move (Operand.tmp 11)), none⟩,
      ⟨some 92, (Op.call { callee := (Callee.builtin Builtin.len), args := #[(Operand.tmp 91)], argTypes := #[22] }), none⟩,
      ⟨some 93, (Op.move (Operand.const (Value.int IntKind.i64 0))), none⟩])
    (.block 4 (.loop [1, 2, 3, 6, 9, 10, 11, 84, 85, 92, 93] false
      (.seq (.reg false [⟨some 94, (Op.binOp BinOp.lss 3 (Operand.tmp 93) (Operand.tmp 92) 3), none⟩])
      (.seq (.cond (Operand.tmp 94)
        .skip
        (.exit 4))
      (.seq (.block 5 (.seq (.reg false [⟨some 95, (Op.move (Operand.tmp 93)), none⟩,
        ⟨some 12, (Op.assign (Operand.tmp 95)), none⟩])
      (.reg false [⟨some 96, (Op.move (Operand.tmp 11)), none⟩,
        ⟨some 97, (Op.move (Operand.tmp 12)), none⟩,
        ⟨some 98, (Op.move (Operand.tmp 11)), none⟩,
        ⟨some 99, (Op.move (Operand.tmp 12)), none⟩,
        ⟨some 100, (Op.indexAddr 22 (Operand.tmp 98) (Operand.tmp 99)), none⟩,
        ⟨some 101, (Op.load 3 (Operand.tmp 100)), none⟩,
        ⟨some 102, (Op.move (Operand.tmp 1)), none⟩,
        ⟨some 103, (Op.move (Operand.tmp 12)), none⟩,
        ⟨some 104, (Op.indexAddr 22 (Operand.tmp 102) (Operand.tmp 103)), none⟩,
        ⟨some 105, (Op.load 3 (Operand.tmp 104)), none⟩,
        ⟨some 106, (Op.binOp BinOp.add 3 (Operand.tmp 101) (Operand.tmp 105) 3), none⟩,
        ⟨some 107, (Op.indexAddr 22 (Operand.tmp 96) (Operand.tmp 97)), none⟩,
        ⟨none, (Op.store 3 (Operand.tmp 107) (Operand.tmp 106)), none⟩])))
      (.reg false [⟨some 108, (Op.binOp BinOp.add 3 (Operand.tmp 93) (Operand.const (Value.int IntKind.i64 1)) 3), none⟩,
        ⟨some 93, (Op.move (Operand.tmp 108)), none⟩])))))))
    (.reg false [⟨some 109, (Op.fieldAddr 40 (Operand.tmp 9) 1), none⟩,
      ⟨some 110, (Op.load 38 (Operand.tmp 109)), none⟩,
      ⟨some 111, (Op.move (Operand.tmp 10)), none⟩,
      ⟨some 112, (Op.load 40 (Operand.tmp 3)), none⟩,
      ⟨some 113, (Op.move (Operand.tmp 11)), none⟩,
      ⟨some 114, (Op.call { callee := (Callee.value (Operand.func 163)), args := #[(Operand.tmp 112), (Operand.tmp 113)], argTypes := #[40, 22] }), none⟩,
      ⟨some 115, (Op.indexAddr 38 (Operand.tmp 110) (Operand.tmp 111)), none⟩,
      ⟨none, (Op.store 2 (Operand.tmp 115) (Operand.tmp 114)), none⟩])))))
    (.reg false [⟨some 116, (Op.binOp BinOp.add 3 (Operand.tmp 85) (Operand.const (Value.int IntKind.i64 1)) 3), none⟩,
      ⟨some 85, (Op.move (Operand.tmp 116)), none⟩])))))))
  (.seq (.reg false [⟨some 117, (Op.load 40 (Operand.tmp 9)), none⟩,
    ⟨none, (Op.store 40 (Operand.tmp 6) (Operand.tmp 117)), none⟩,
    ⟨some 7, (Op.assign (Operand.const (Value.int IntKind.i64 0))), none⟩])
  .ret)))))))
noncomputable def b135 : Code := Try.f135.body.getD .skip
theorem hb135 : Try.f135.body = some b135 := by kernel_rfl
theorem sh135 : shortC A135 b135 = c135 := by kernel_rfl
def rs135 : List ResultVar := [(ResultVar.cell 6 40), (ResultVar.tmp 7)]
theorem hr135 : Try.f135.results.toList = rs135 := by kernel_rfl
/-! parquetry/parquetryref14.Part (4 parameters; calls 20 parquetry/parquetryref14.Devices, 40 parquetry/parquetryref14.Tile, 84 parquetry/parquetryref1.Tensor, 85 parquetry/parquetryref14.may, 135 parquetry/parquetryref4.Slice) -/
def A82 : Ann := { drop := fun i => false }
noncomputable def c82 : Cc :=
  (.seq (.reg false [⟨some 4, (Op.box 40 (Operand.tmp 0)), none⟩,
    ⟨some 8, (Op.alloc 40), none⟩,
    ⟨some 9, (Op.assign (Operand.const (Value.int IntKind.i64 0))), none⟩])
  (.seq (.seq (.reg false [⟨some 12, (Op.load 40 (Operand.tmp 4)), none⟩,
    ⟨some 13, (Op.call { callee := (Callee.value (Operand.func 84)), args := #[(Operand.tmp 12)], argTypes := #[40] }), none⟩,
    ⟨some 14, (Op.unOp UnOp.not 4 (Operand.tmp 13)), none⟩])
  (.cond (Operand.tmp 14)
    (.seq (.reg false [⟨some 15, (Op.build 40 #[]), none⟩,
      ⟨none, (Op.store 40 (Operand.tmp 8) (Operand.tmp 15)), none⟩,
      ⟨some 9, (Op.assign (Operand.const (Value.int IntKind.i64 13))), none⟩])
    .ret)
    .skip))
  (.seq (.seq (.reg false [⟨some 16, (Op.fieldAddr 40 (Operand.tmp 4) 0), none⟩,
    ⟨some 17, (Op.load 22 (Operand.tmp 16)), none⟩,
    ⟨some 18, (Op.move (Operand.tmp 1)), none⟩,
    ⟨some 19, (Op.move (Operand.tmp 2)), none⟩,
    ⟨some 20, (Op.call { callee := (Callee.value (Operand.func 85)), args := #[(Operand.tmp 17), (Operand.tmp 18), (Operand.tmp 19)], argTypes := #[22, 22, 22] }), none⟩,
    ⟨some 21, (Op.unOp UnOp.not 4 (Operand.tmp 20)), none⟩])
  (.cond (Operand.tmp 21)
    (.seq (.reg false [⟨some 22, (Op.build 40 #[]), none⟩,
      ⟨none, (Op.store 40 (Operand.tmp 8) (Operand.tmp 22)), none⟩,
      ⟨some 9, (Op.assign (Operand.const (Value.int IntKind.i64 1))), none⟩])
    .ret)
    .skip))
  (.seq (.seq (.reg false [⟨some 23, (Op.move (Operand.tmp 3)), none⟩,
    ⟨some 24, (Op.binOp BinOp.lss 3 (Operand.tmp 23) (Operand.const (Value.int IntKind.i64 0)) 3), none⟩,
    ⟨some 25, (Op.move (Operand.tmp 24)), none⟩,
    ⟨some 26, (Op.move (Operand.tmp 3)), some (25, false)⟩,
    ⟨some 27, (Op.move (Operand.tmp 1)), some (25, false)⟩,
    ⟨some 28, (Op.call { callee := (Callee.value (Operand.func 20)), args := #[(Operand.tmp 27)], argTypes := #[22] }), some (25, false)⟩,
    ⟨some 29, (Op.binOp BinOp.geq 3 (Operand.tmp 26) (Operand.tmp 28) 3), some (25, false)⟩,
    ⟨some 30, (Op.pick (Operand.tmp 25) (Operand.const (Value.bool true)) (Operand.tmp 29)), none⟩])
  (.cond (Operand.tmp 30)
    (.seq (.reg false [⟨some 31, (Op.build 40 #[]), none⟩,
      ⟨none, (Op.store 40 (Operand.tmp 8) (Operand.tmp 31)), none⟩,
      ⟨some 9, (Op.assign (Operand.const (Value.int IntKind.i64 23))), none⟩])
    .ret)
    .skip))
  (.seq (.reg false [⟨some 33, (Op.fieldAddr 40 (Operand.tmp 4) 0), none⟩,
    ⟨some 34, (Op.load 22 (Operand.tmp 33)), none⟩,
    ⟨some 35, (Op.move (Operand.tmp 1)), none⟩,
    ⟨some 36, (Op.move (Operand.tmp 2)), none⟩,
    ⟨some 37, (Op.move (Operand.tmp 3)), none⟩,
    ⟨some 38, (Op.call { callee := (Callee.value (Operand.func 40)), args := #[(Operand.tmp 34), (Operand.tmp 35), (Operand.tmp 36), (Operand.tmp 37)], argTypes := #[22, 22, 22, 3] }), none⟩,
    ⟨some 32, (Op.move (Operand.tmp 38)), none⟩,
    ⟨some 39, (Op.extract (Operand.tmp 32) 0), none⟩,
    ⟨some 40, (Op.extract (Operand.tmp 32) 1), none⟩,
    ⟨some 10, (Op.assign (Operand.tmp 39)), none⟩,
    ⟨some 11, (Op.assign (Operand.tmp 40)), none⟩])
  (.seq (.reg false [⟨some 41, (Op.load 40 (Operand.tmp 4)), none⟩,
    ⟨some 42, (Op.move (Operand.tmp 10)), none⟩,
    ⟨some 43, (Op.move (Operand.tmp 11)), none⟩,
    ⟨some 44, (Op.call { callee := (Callee.value (Operand.func 135)), args := #[(Operand.tmp 41), (Operand.tmp 42), (Operand.tmp 43)], argTypes := #[40, 22, 22] }), none⟩,
    ⟨some 45, (Op.extract (Operand.tmp 44) 0), none⟩,
    ⟨some 46, (Op.extract (Operand.tmp 44) 1), none⟩,
    ⟨none, (Op.store 40 (Operand.tmp 8) (Operand.tmp 45)), none⟩,
    ⟨some 9, (Op.assign (Operand.tmp 46)), none⟩])
  .ret))))))
noncomputable def b82 : Code := Try.f82.body.getD .skip
theorem hb82 : Try.f82.body = some b82 := by kernel_rfl
theorem sh82 : shortC A82 b82 = c82 := by kernel_rfl
def rs82 : List ResultVar := [(ResultVar.cell 8 40), (ResultVar.tmp 9)]
theorem hr82 : Try.f82.results.toList = rs82 := by kernel_rfl
/-! parquetry/parquetryref14.All (3 parameters; calls 20 parquetry/parquetryref14.Devices, 82 parquetry/parquetryref14.Part, 84 parquetry/parquetryref1.Tensor, 85 parquetry/parquetryref14.may) -/
def A34 : Ann := { live := fun i => if i = 7 then [1, 2, 3, 8, 9] else [], drop := fun i => false }
noncomputable def c34 : Cc :=
  (.seq (.reg false [⟨some 3, (Op.box 40 (Operand.tmp 0)), none⟩,
    ⟨some 6, (Op.assign (Operand.const (Value.slice none 0 0))), none⟩,
    ⟨some 7, (Op.assign (Operand.const (Value.int IntKind.i64 0))), none⟩])
  (.seq (.seq (.reg false [⟨some 12, (Op.load 40 (Operand.tmp 3)), none⟩,
    ⟨some 13, (Op.call { callee := (Callee.value (Operand.func 84)), args := #[(Operand.tmp 12)], argTypes := #[40] }), none⟩,
    ⟨some 14, (Op.unOp UnOp.not 4 (Operand.tmp 13)), none⟩])
  (.cond (Operand.tmp 14)
    (.seq (.reg false [⟨some 6, (Op.assign (Operand.const (Value.slice none 0 0))), none⟩,
      ⟨some 7, (Op.assign (Operand.const (Value.int IntKind.i64 13))), none⟩])
    .ret)
    .skip))
  (.seq (.seq (.reg false [⟨some 15, (Op.fieldAddr 40 (Operand.tmp 3) 0), none⟩,
    ⟨some 16, (Op.load 22 (Operand.tmp 15)), none⟩,
    ⟨some 17, (Op.move (Operand.tmp 1)), none⟩,
    ⟨some 18, (Op.move (Operand.tmp 2)), none⟩,
    ⟨some 19, (Op.call { callee := (Callee.value (Operand.func 85)), args := #[(Operand.tmp 16), (Operand.tmp 17), (Operand.tmp 18)], argTypes := #[22, 22, 22] }), none⟩,
    ⟨some 20, (Op.unOp UnOp.not 4 (Operand.tmp 19)), none⟩])
  (.cond (Operand.tmp 20)
    (.seq (.reg false [⟨some 6, (Op.assign (Operand.const (Value.slice none 0 0))), none⟩,
      ⟨some 7, (Op.assign (Operand.const (Value.int IntKind.i64 1))), none⟩])
    .ret)
    .skip))
  (.seq (.reg false [⟨some 8, (Op.assign (Operand.const (Value.slice none 0 0))), none⟩])
  (.seq (.seq (.reg false [⟨some 9, (Op.assign (Operand.const (Value.int IntKind.i64 0))), none⟩])
  (.block 0 (.loop [1, 2, 3, 8, 9] false
    (.seq (.seq (.reg false [⟨some 21, (Op.move (Operand.tmp 9)), none⟩,
      ⟨some 22, (Op.move (Operand.tmp 1)), none⟩,
      ⟨some 23, (Op.call { callee := (Callee.value (Operand.func 20)), args := #[(Operand.tmp 22)], argTypes := #[22] }), none⟩,
      ⟨some 24, (Op.binOp BinOp.lss 3 (Operand.tmp 21) (Operand.tmp 23) 3), none⟩])
    (.cond (Operand.tmp 24)
      .skip
      (.exit 0)))
    (.seq (.block 1 (.seq (.reg false [⟨some 28, (Op.load 40 (Operand.tmp 3)), none⟩,
      ⟨some 29, (Op.move (Operand.tmp 1)), none⟩,
      ⟨some 30, (Op.move (Operand.tmp 2)), none⟩,
      ⟨some 31, (Op.move (Operand.tmp 9)), none⟩,
      ⟨some 32, (Op.call { callee := (Callee.value (Operand.func 82)), args := #[(Operand.tmp 28), (Operand.tmp 29), (Operand.tmp 30), (Operand.tmp 31)], argTypes := #[40, 22, 22, 3] }), none⟩,
      ⟨some 27, (Op.move (Operand.tmp 32)), none⟩,
      ⟨some 33, (Op.extract (Operand.tmp 27) 0), none⟩,
      ⟨some 34, (Op.extract (Operand.tmp 27) 1), none⟩,
      ⟨some 10, (Op.alloc 40), none⟩,
      ⟨none, (Op.store 40 (Operand.tmp 10) (Operand.tmp 33)), none⟩,
      ⟨some 11, (Op.assign (Operand.tmp 34)), none⟩])
    (.reg false [⟨some 35, (Op.move (Operand.tmp 8)), none⟩,
      ⟨some 36, (Op.load 40 (Operand.tmp 10)), none⟩,
      ⟨some 37, (Op.buildSlice 45 1 #[(0, (Operand.tmp 36))]), none⟩,
      ⟨some 38, (Op.call { callee := (Callee.builtin Builtin.append), args := #[(Operand.tmp 35), (Operand.tmp 37)], argTypes := #[45, 45] }), none⟩,
      ⟨some 8, (Op.assign (Operand.tmp 38)), none⟩])))
    (.reg false [⟨some 25, (Op.move (Operand.tmp 9)), none⟩,
      ⟨some 26, (Op.binOp BinOp.add 3 (Operand.tmp 25) (Operand.const (Value.int IntKind.i64 1)) 3), none⟩,
      ⟨some 9, (Op.assign (Operand.tmp 26)), none⟩]))))))
  (.seq (.reg false [⟨some 39, (Op.move (Operand.tmp 8)), none⟩,
    ⟨some 6, (Op.assign (Operand.tmp 39)), none⟩,
    ⟨some 7, (Op.assign (Operand.const (Value.int IntKind.i64 0))), none⟩])
  .ret))))))
noncomputable def b34 : Code := Try.f34.body.getD .skip
theorem hb34 : Try.f34.body = some b34 := by kernel_rfl
theorem sh34 : shortC A34 b34 = c34 := by kernel_rfl
def rs34 : List ResultVar := [(ResultVar.tmp 6), (ResultVar.tmp 7)]
theorem hr34 : Try.f34.results.toList = rs34 := by kernel_rfl
/-! parquetry/parquetryref1.Tensors (2 parameters; calls 39 parquetry/parquetryref1.Same) -/
def A83 : Ann := { live := fun i => if i = 4 then [0, 1, 5] else [], drop := fun i => false }
noncomputable def c83 : Cc :=
  (.seq (.reg false [⟨some 4, (Op.assign (Operand.const (Value.bool false))), none⟩])
  (.seq (.seq (.reg false [⟨some 6, (Op.move (Operand.tmp 0)), none⟩,
    ⟨some 7, (Op.call { callee := (Callee.builtin Builtin.len), args := #[(Operand.tmp 6)], argTypes := #[45] }), none⟩,
    ⟨some 8, (Op.move (Operand.tmp 1)), none⟩,
    ⟨some 9, (Op.call { callee := (Callee.builtin Builtin.len), args := #[(Operand.tmp 8)], argTypes := #[45] }), none⟩,
    ⟨some 10, (Op.binOp BinOp.neq 3 (Operand.tmp 7) (Operand.tmp 9) 3), none⟩])
  (.cond (Operand.tmp 10)
    (.seq (.reg false [⟨some 4, (Op.assign (Operand.const (Value.bool false))), none⟩])
    .ret)
    .skip))
  (.seq (.seq (.reg false [⟨some 5, (Op.assign (Operand.const (Value.int IntKind.i64 0))), none⟩])
  (.block 0 (.loop [0, 1, 5] false
    (.seq (.seq (.reg false [⟨some 11, (Op.move (Operand.tmp 5)), none⟩,
      ⟨some 12, (Op.move (Operand.tmp 0)), none⟩,
      ⟨some 13, (Op.call { callee := (Callee.builtin Builtin.len), args := #[(Operand.tmp 12)], argTypes := #[45] }), none⟩,
      ⟨some 14, (Op.binOp BinOp.lss 3 (Operand.tmp 11) (Operand.tmp 13) 3), none⟩])
    (.cond (Operand.tmp 14)
      .skip
      (.exit 0)))
    (.seq (.block 1 (.seq (.reg false [⟨some 17, (Op.move (Operand.tmp 0)), none⟩,
      ⟨some 18, (Op.move (Operand.tmp 5)), none⟩,
      ⟨some 19, (Op.indexAddr 45 (Operand.tmp 17) (Operand.tmp 18)), none⟩,
      ⟨some 20, (Op.load 40 (Operand.tmp 19)), none⟩,
      ⟨some 21, (Op.move (Operand.tmp 1)), none⟩,
      ⟨some 22, (Op.move (Operand.tmp 5)), none⟩,
      ⟨some 23, (Op.indexAddr 45 (Operand.tmp 21) (Operand.tmp 22)), none⟩,
      ⟨some 24, (Op.load 40 (Operand.tmp 23)), none⟩,
      ⟨some 25, (Op.call { callee := (Callee.value (Operand.func 39)), args := #[(Operand.tmp 20), (Operand.tmp 24)], argTypes := #[40, 40] }), none⟩,
      ⟨some 26, (Op.unOp UnOp.not 4 (Operand.tmp 25)), none⟩])
    (.cond (Operand.tmp 26)
      (.seq (.reg false [⟨some 4, (Op.assign (Operand.const (Value.bool false))), none⟩])
      .ret)
      .skip)))
    (.reg false [⟨some 15, (Op.move (Operand.tmp 5)), none⟩,
      ⟨some 16, (Op.binOp BinOp.add 3 (Operand.tmp 15) (Operand.const (Value.int IntKind.i64 1)) 3), none⟩,
      ⟨some 5, (Op.assign (Operand.tmp 16)), none⟩]))))))
  (.seq (.reg false [⟨some 4, (Op.assign (Operand.const (Value.bool true))), none⟩])
  .ret))))
noncomputable def b83 : Code := Try.f83.body.getD .skip
theorem hb83 : Try.f83.body = some b83 := by kernel_rfl
theorem sh83 : shortC A83 b83 = c83 := by kernel_rfl
def rs83 : List ResultVar := [(ResultVar.tmp 4)]
theorem hr83 : Try.f83.results.toList = rs83 := by kernel_rfl
/-! parquetry/parquetrylaw17.same (4 parameters; calls 34 parquetry/parquetryref14.All, 37 parquetry/split.All, 39 parquetry/parquetryref1.Same, 81 parquetry/split.Part, 82 parquetry/parquetryref14.Part, 83 parquetry/parquetryref1.Tensors) -/
def A33 : Ann := { drop := fun i => false }
noncomputable def c33 : Cc :=
  (.seq (.reg false [⟨some 4, (Op.box 40 (Operand.tmp 0)), none⟩,
    ⟨some 8, (Op.assign (Operand.const (Value.bool false))), none⟩])
  (.seq (.reg false [⟨some 18, (Op.load 40 (Operand.tmp 4)), none⟩,
    ⟨some 19, (Op.move (Operand.tmp 1)), none⟩,
    ⟨some 20, (Op.move (Operand.tmp 2)), none⟩,
    ⟨some 21, (Op.move (Operand.tmp 3)), none⟩,
    ⟨some 22, (Op.call { callee := (Callee.value (Operand.func 81)), args := #[(Operand.tmp 18), (Operand.tmp 19), (Operand.tmp 20), (Operand.tmp 21)], argTypes := #[40, 22, 22, 3] }), none⟩,
    ⟨some 17, (Op.move (Operand.tmp 22)), none⟩,
    ⟨some 23, (Op.extract (Operand.tmp 17) 0), none⟩,
    ⟨some 24, (Op.extract (Operand.tmp 17) 1), none⟩,
    ⟨some 9, (Op.alloc 40), none⟩,
    ⟨none, (Op.store 40 (Operand.tmp 9) (Operand.tmp 23)), none⟩,
    ⟨some 10, (Op.assign (Operand.tmp 24)), none⟩])
  (.seq (.reg false [⟨some 26, (Op.load 40 (Operand.tmp 4)), none⟩,
    ⟨some 27, (Op.move (Operand.tmp 1)), none⟩,
    ⟨some 28, (Op.move (Operand.tmp 2)), none⟩,
    ⟨some 29, (Op.move (Operand.tmp 3)), none⟩,
    ⟨some 30, (Op.call { callee := (Callee.value (Operand.func 82)), args := #[(Operand.tmp 26), (Operand.tmp 27), (Operand.tmp 28), (Operand.tmp 29)], argTypes := #[40, 22, 22, 3] }), none⟩,
    ⟨some 25, (Op.move (Operand.tmp 30)), none⟩,
    ⟨some 31, (Op.extract (Operand.tmp 25) 0), none⟩,
    ⟨some 32, (Op.extract (Operand.tmp 25) 1), none⟩,
    ⟨some 11, (Op.alloc 40), none⟩,
    ⟨none, (Op.store 40 (Operand.tmp 11) (Operand.tmp 31)), none⟩,
    ⟨some 12, (Op.assign (Operand.tmp 32)), none⟩])
  (.seq (.reg false [⟨some 34, (Op.load 40 (Operand.tmp 4)), none⟩,
    ⟨some 35, (Op.move (Operand.tmp 1)), none⟩,
    ⟨some 36, (Op.move (Operand.tmp 2)), none⟩,
    ⟨some 37, (Op.call { callee := (Callee.value (Operand.func 37)), args := #[(Operand.tmp 34), (Operand.tmp 35), (Operand.tmp 36)], argTypes := #[40, 22, 22] }), none⟩,
    ⟨some 33, (Op.move (Operand.tmp 37)), none⟩,
    ⟨some 38, (Op.extract (Operand.tmp 33) 0), none⟩,
    ⟨some 39, (Op.extract (Operand.tmp 33) 1), none⟩,
    ⟨some 13, (Op.assign (Operand.tmp 38)), none⟩,
    ⟨some 14, (Op.assign (Operand.tmp 39)), none⟩])
  (.seq (.reg false [⟨some 41, (Op.load 40 (Operand.tmp 4)), none⟩,
    ⟨some 42, (Op.move (Operand.tmp 1)), none⟩,
    ⟨some 43, (Op.move (Operand.tmp 2)), none⟩,
    ⟨some 44, (Op.call { callee := (Callee.value (Operand.func 34)), args := #[(Operand.tmp 41), (Operand.tmp 42), (Operand.tmp 43)], argTypes := #[40, 22, 22] }), none⟩,
    ⟨some 40, (Op.move (Operand.tmp 44)), none⟩,
    ⟨some 45, (Op.extract (Operand.tmp 40) 0), none⟩,
    ⟨some 46, (Op.extract (Operand.tmp 40) 1), none⟩,
    ⟨some 15, (Op.assign (Operand.tmp 45)), none⟩,
    ⟨some 16, (Op.assign (Operand.tmp 46)), none⟩])
  (.seq (.reg false [⟨some 47, (Op.move (Operand.tmp 10)), none⟩,
    ⟨some 48, (Op.move (Operand.tmp 12)), none⟩,
    ⟨some 49, (Op.binOp BinOp.eql 46 (Operand.tmp 47) (Operand.tmp 48) 46), none⟩,
    ⟨some 50, (Op.move (Operand.tmp 49)), none⟩,
    ⟨some 51, (Op.load 40 (Operand.tmp 9)), some (50, true)⟩,
    ⟨some 52, (Op.load 40 (Operand.tmp 11)), some (50, true)⟩,
    ⟨some 53, (Op.call { callee := (Callee.value (Operand.func 39)), args := #[(Operand.tmp 51), (Operand.tmp 52)], argTypes := #[40, 40] }), some (50, true)⟩,
    ⟨some 54, (Op.pick (Operand.tmp 50) (Operand.tmp 53) (Operand.const (Value.bool false))), none⟩,
    ⟨some 55, (Op.move (Operand.tmp 54)), none⟩,
    ⟨some 56, (Op.move (Operand.tmp 14)), some (55, true)⟩,
    ⟨some 57, (Op.move (Operand.tmp 16)), some (55, true)⟩,
    ⟨some 58, (Op.binOp BinOp.eql 46 (Operand.tmp 56) (Operand.tmp 57) 46), some (55, true)⟩,
    ⟨some 59, (Op.pick (Operand.tmp 55) (Operand.tmp 58) (Operand.const (Value.bool false))), none⟩,
    ⟨some 60, (Op.move (Operand.tmp 59)), none⟩,
    ⟨some 61, (Op.move (Operand.tmp 13)), some (60, true)⟩,
    ⟨some 62, (Op.move (Operand.tmp 15)), some (60, true)⟩,
    ⟨some 63, (Op.call { callee := (Callee.value (Operand.func 83)), args := #[(Operand.tmp 61), (Operand.tmp 62)], argTypes := #[45, 45] }), some (60, true)⟩,
    ⟨some 64, (Op.pick (Operand.tmp 60) (Operand.tmp 63) (Operand.const (Value.bool false))), none⟩,
    ⟨some 8, (Op.assign (Operand.tmp 64)), none⟩])
  .ret))))))
noncomputable def b33 : Code := Try.f33.body.getD .skip
theorem hb33 : Try.f33.body = some b33 := by kernel_rfl
theorem sh33 : shortC A33 b33 = c33 := by kernel_rfl
def rs33 : List ResultVar := [(ResultVar.tmp 8)]
theorem hr33 : Try.f33.results.toList = rs33 := by kernel_rfl
/- Walks: the document's Slice, Part. -/
theorem snd84 : Sound Try.prog 84 (FSem.pure F91).run := by
  refine sound_of hT (EOK_cons snd100 (EOK_cons snd101 (EOK_nil _))) mixed A84 Try.func84 hb84 (by kernel_rfl) (by kernel_rfl) (by kernel_rfl) (by kernel_rfl) sh84 1 (by kernel_rfl) rs84 hr84 ?_
  intro args H r H' hw h
  obtain ⟨rfl, hv⟩ := pureAt h
  clear h
  unfold F91 at hv
  split at hv
  · rename_i t
    obtain ⟨⟨s, d⟩, ht, hv⟩ := Option.map_eq_some_iff.1 hv
    cases hv
    obtain ⟨x, y, rfl, hs, hd⟩ := tens_some ht
    have hbx := abox_agg H' (ints_one' hs) (ints_one' hd)
    have hat := new_at H' [x, y]
    have l0 := ld22 hat 0
    have l1 := ld38 hat 1
    have hP : Pre H' (H'.new [x, y]) := Pre.new (Pre.refl _) _
    have hs1 := ints_ext hP hs
    have hd1 := alenS_ints (ints_ext hP hd)
    simp only [← alen38] at hd1
    simp only [List.getElem?_cons_zero, List.getElem?_cons_succ] at l0 l1
    simp only at hs1 hd1
    have e1 := r1OK_eq s
    refine ⟨rfl, go ?_⟩
    unfold c84
    simp only [argSl]
    generalize H'.new [x, y] = H1 at *
    generalize H'.bs.length = b at l0 l1 hbx
    generalize H'.c = ver at l0 l1 hbx
    clear hs hd hat ht
    replace hP := Hide.mk hP
    rcases h1 : shapeOK s with _ | _
    · repeat' (first | apply goSeq | apply goReg | apply goSeqN | apply goSeqR | apply goSkip | apply goRet | apply goNil | apply goBlock | apply goExit | apply goBlkN | apply goBlkR | apply goBlkE | apply goSeqE | apply goLoopR | apply goLoopE | refine xOp ?_ | refine xOp0 ?_ | refine xYes ?_ | refine xNo ?_ | refine xNoU ?_ | refine xIfT ?_ | refine xIfF ?_ | refine xIf ?_ ?_ | refine xSplit ?_ ?_ | refine xIfQ ?_ ?_ | refine xSplitQ ?_ ?_ | refine xBlkX ?_ | intro _)
      refine goEnd hw hP.out (by simp) (by simp [rs84]; exact rfl) rfl ?_
      simp [tOK, h1]
    · repeat' (first | apply goSeq | apply goReg | apply goSeqN | apply goSeqR | apply goSkip | apply goRet | apply goNil | apply goBlock | apply goExit | apply goBlkN | apply goBlkR | apply goBlkE | apply goSeqE | apply goLoopR | apply goLoopE | refine xOp ?_ | refine xOp0 ?_ | refine xYes ?_ | refine xNo ?_ | refine xNoU ?_ | refine xIfT ?_ | refine xIfF ?_ | refine xIf ?_ ?_ | refine xSplit ?_ ?_ | refine xIfQ ?_ ?_ | refine xSplitQ ?_ ?_ | refine xBlkX ?_ | intro _)
      refine goEnd hw hP.out (by simp) (by simp [rs84]; exact rfl) rfl ?_
      simp [tOK, h1]
  · cases hv
def F163 (args : List AV) (H : Hp) : Option AV := match args with
  | [t, a] => (tens H t).bind fun p => (ints H a).bind fun l => if 0 ≤ idxL p.1 l ∧ idxL p.1 l < p.2.length then some (.int .i64 (nth p.2 (idxL p.1 l))) else none
  | _ => none
theorem snd163 : Sound Try.prog 163 (FSem.pure F163).run := by
  refine sound_of hT (EOK_cons snd42 (EOK_nil _)) mixed A163 Try.func163 hb163 (by kernel_rfl) (by kernel_rfl) (by kernel_rfl) (by kernel_rfl) sh163 2 (by kernel_rfl) rs163 hr163 ?_
  intro args H r H' hw h
  obtain ⟨rfl, hv⟩ := pureAt h
  clear h
  unfold F163 at hv
  split at hv
  · rename_i t a
    obtain ⟨⟨s, d⟩, ht, hv⟩ := Option.bind_eq_some_iff.1 hv
    obtain ⟨l, hl, hv⟩ := Option.bind_eq_some_iff.1 hv
    split at hv
    rotate_left
    · cases hv
    rename_i hix
    cases hv
    obtain ⟨x, y, rfl, hs, hd⟩ := tens_some ht
    have hbx := abox_agg H' (ints_one' hs) (ints_one' hd)
    have hat := new_at H' [x, y]
    have l0 := ld22 hat 0
    have l1 := ld38 hat 1
    have hP : Pre H' (H'.new [x, y]) := Pre.new (Pre.refl _) _
    have hs1 := ints_ext hP hs
    have hd1 : ints (H'.new [x, y]) y = some d := ints_ext hP hd
    have hl1 := ints_ext hP hl
    simp only [List.getElem?_cons_zero, List.getElem?_cons_succ] at l0 l1
    simp only at hs1 hix ⊢
    obtain ⟨j, hj⟩ : ∃ j : Nat, idxL s l = j := ⟨(idxL s l).toNat, by omega⟩
    rw [hj] at hix ⊢
    have hixd : aidx T 38 y (.int .i64 j) = some (pAt y j) := by
      rw [aidx38, aidxS_ints hd1 .i64 j, if_pos hix]
    have hldd : aload T 2 (pAt y j) (H'.new [x, y]) = some (.int .i64 (nth d j)) := aload_nth T2 rfl hd1 j hix.1 hix.2
    refine ⟨rfl, go ?_⟩
    unfold c163
    simp only [argSl]
    generalize H'.new [x, y] = H1 at *
    generalize H'.bs.length = b at l0 l1 hbx
    generalize H'.c = ver at l0 l1 hbx
    clear hs hd hat ht hl hix hd1
    replace hP := Hide.mk hP
    repeat' (first | apply goSeq | apply goReg | apply goSeqN | apply goSeqR | apply goSkip | apply goRet | apply goNil | apply goBlock | apply goExit | apply goBlkN | apply goBlkR | apply goBlkE | apply goSeqE | apply goLoopR | apply goLoopE | refine xOp ?_ | refine xOp0 ?_ | refine xYes ?_ | refine xNo ?_ | refine xNoU ?_ | refine xIfT ?_ | refine xIfF ?_ | refine xIf ?_ ?_ | refine xSplit ?_ ?_ | refine xIfQ ?_ ?_ | refine xSplitQ ?_ ?_ | refine xBlkX ?_ | intro _)
    exact goEnd hw hP.out (by simp) (by simp [rs163]; exact rfl) rfl rfl
  · cases hv
/-- A part that may be cut out. -/
structure SlOK (p : TS) (FR SZ : List Int) : Prop where
  ok : tOK p = true
  fl : FR.length = p.1.length
  zl : SZ.length = p.1.length
  rng : ∀ i : Nat, i < p.1.length → 0 ≤ nth FR i ∧ 0 ≤ nth SZ i ∧ nth FR i + nth SZ i ≤ nth p.1 i
  sh : shapeOK SZ = true
def numsR (p : TS) (FR SZ : List Int) : List Int := madeL (fun at1 => atT p (addL at1 FR)) SZ
theorem SlOK.shape {p : TS} {FR SZ : List Int} (h : SlOK p FR SZ) : shapeOK p.1 = true ∧ (p.2.length : Int) = sizeOf p.1 := by
  have := h.ok
  simp only [tOK, Bool.and_eq_true, decide_eq_true_eq] at this
  exact this
theorem SlOK.num {p : TS} {FR SZ : List Int} (h : SlOK p FR SZ) {i : Nat} (hi : (i : Int) < sizeOf SZ) : 0 ≤ idxL p.1 (addL (meshAt SZ (i : Nat)) FR) ∧ idxL p.1 (addL (meshAt SZ (i : Nat)) FR) < p.2.length ∧ nth (numsR p FR SZ) i = nth p.2 (idxL p.1 (addL (meshAt SZ (i : Nat)) FR)) := by
  obtain ⟨h1, h2⟩ := h.shape
  have hr := (shapeOK_rng h1).2
  have hzl := h.zl
  have hfl := h.fl
  have hl : (addL (meshAt SZ (i : Nat)) FR).length = p.1.length := by rw [addL_len, meshAt_len, hzl]
  have hin := idxL_in h1 hl (fun j hj => by
    have hp := place_in h.sh (i := (i : Int)) (by omega) hi j (by omega)
    have hrj := h.rng j hj
    have hs := hr j hj
    rw [nth_addL' _ _ j (by rw [meshAt_len]; omega) (by omega), w_id (by omega)]
    omega)
  refine ⟨hin.1, by omega, ?_⟩
  have e : nth (numsR p FR SZ) (i : Nat) = atT p (addL (meshAt SZ (i : Nat)) FR) := by
    have hi' : i < (sizeOf SZ).toNat := by omega
    simp [numsR, madeL, nth, List.getD_eq_getElem?_getD, hi']
  have hp : plT p (addL (meshAt SZ (i : Nat)) FR) = idxL p.1 (addL (meshAt SZ (i : Nat)) FR) := by
    unfold plT
    rw [if_pos h.ok]
  rw [e]
  unfold atT
  rw [hp, if_neg (by omega)]
open Classical in
noncomputable def F135 (args : List AV) (H : Hp) : Option (AV × Hp) := match args with
  | [t, f, z] => (tens H t).bind fun p => (ints H f).bind fun FR => (ints H z).bind fun SZ => if SlOK p FR SZ then some (mk (okTn (trC SZ) (trS (numsR p FR SZ))) H) else none
  | _ => none
theorem xr135 (s : Sl) (H : Hp) {v : AV} {b ver : Nat} {e : AV} (h1 : get s 6 = .ptr b ver 0) (h2 : aload T 40 (.ptr b ver 0) H = some v) (h3 : get s 7 = e) : xres T s H rs135 = some [v, e] := by
  simp [rs135, h1, h2, h3]
set_option maxHeartbeats 4000000 in
theorem snd135 : Sound Try.prog 135 (FSem.eff F135).run := by
  refine sound_of hT (EOK_cons snd41 (EOK_cons snd70 (EOK_cons snd84 (EOK_cons snd163 (EOK_nil _))))) mixed A135 Try.func135 hb135 (by kernel_rfl) (by kernel_rfl) (by kernel_rfl) (by kernel_rfl) sh135 3 (by kernel_rfl) rs135 hr135 ?_
  intro args H r H' hw h
  have hv : F135 args H = some (r, H') := h
  clear h
  unfold F135 at hv
  split at hv
  rotate_left
  · cases hv
  rename_i t fv zv
  obtain ⟨p, ht, hv⟩ := Option.bind_eq_some_iff.1 hv
  obtain ⟨FR, hf, hv⟩ := Option.bind_eq_some_iff.1 hv
  obtain ⟨SZ, hz, hv⟩ := Option.bind_eq_some_iff.1 hv
  split at hv
  rotate_left
  · cases hv
  rename_i hok
  have hvv := Hide.mk (Option.some.inj hv)
  clear hv
  obtain ⟨x, y, rfl, hx, hy⟩ := tens_some ht
  have ox := ints_one' hx
  have oy := ints_one' hy
  have zx := Fz.of hx
  have zy := Fz.of hy
  have zf := Fz.of hf
  have zz := Fz.of hz
  have hlf := alenS_ints hf
  have hlz := alenS_ints hz
  have hlx := alenS_ints hx
  have if1 := aidxS_ints hf .i64
  have iz1 := aidxS_ints hz .i64
  have ix1 := aidxS_ints hx .i64
  simp only [← alen22] at hlf hlz hlx
  simp only [← aidx22] at if1 iz1 ix1
  have e1 := hok.fl
  have e2 := hok.zl
  rw [e1] at hlf if1
  rw [e2] at hlz iz1
  have hok1 := hok.ok
  obtain ⟨hsp, hdl⟩ := hok.shape
  obtain ⟨h4, hr⟩ := shapeOK_rng hsp
  have e84 : ∀ H', Fm ⟨H, []⟩ H' → F91 [.agg [x, y]] H' = some (.bool true) := by
    intro H' hF
    have := tens_ext hF.pre' ht
    simp [F91, this, hok1]
  refine ⟨rfl, go (zStart (SL.nil hw []) ?_)⟩
  unfold c135
  simp only [argSl]
  repeat' (first | apply zSeq | apply zReg | apply zSeqN | apply zSeqR | apply zSkip | apply zRet | apply zNil | apply zBlock | apply zExit | apply zBlkN | apply zBlkR | apply zBlkE | apply zSeqE | apply zLoopR | apply zLoopE | refine yYes' ?_ | refine yNo' ?_ | refine yNoU' ?_ | refine yLd' ?_ | refine yLdI' ?_ | refine yStS' ?_ | refine yStF' ?_ | refine ySt' ?_ | refine yBS' fun _ _ => ?_ | refine yAlloc' fun _ _ => ?_ | refine yBox' fun _ _ => ?_ | refine yOp' ?_ | refine yIfT ?_ | refine yIfF ?_ | refine yIf ?_ ?_ | refine ySplit' ?_ ?_ | refine yIfQ ?_ ?_ | refine ySplitQ' ?_ ?_ | refine yBlkX ?_ | intro _)
  rename_i b3 v3 b6 v6
  refine zLoop (fun m s1 L => L = [(.ptr b6 v6 0, .bx [.at .nilS, .at .nilS]), (.ptr b3 v3 0, .bx [.at x, .at y])] ∧ ∃ i : Nat, m = p.1.length - i ∧ i ≤ p.1.length ∧ get s1 1 = fv ∧ get s1 2 = zv ∧ get s1 3 = .ptr b3 v3 0 ∧ get s1 6 = .ptr b6 v6 0 ∧ get s1 33 = .int .i64 p.1.length ∧ get s1 34 = .int .i64 i) p.1.length ⟨rfl, 0, rfl, Nat.zero_le _, rfl, rfl, rfl, rfl, rfl, rfl⟩ ?_
  rintro m s1 L ⟨rfl, i, hmm, hi, g1, g2, g3, g4, g5, g6⟩
  simp only [cut_cons, cut_nil, g1, g2, g3, g4, g5, g6]
  clear g1 g2 g3 g4 g5 g6
  have hwi : w ((i : Int) + 1) = ((i + 1 : Nat) : Int) := w_id (by omega)
  by_cases his : i < p.1.length
  · obtain ⟨r1, r2, r3⟩ := hok.rng i his
    have r4 := hr i his
    have c1 : ¬ nth FR i < 0 := by omega
    have c2 : ¬ nth SZ i < 0 := by omega
    have c3 : ¬ nth p.1 i < nth FR i := by omega
    have c4 : w (nth p.1 i - nth FR i) = nth p.1 i - nth FR i := w_id (by omega)
    have c5 : ¬ (nth p.1 i - nth FR i) < nth SZ i := by omega
    have his' : (i : Int) < p.1.length := by omega
    clear r1 r2 r3 r4
    repeat' (first | apply zSeq | apply zReg | apply zSeqN | apply zSeqR | apply zSkip | apply zRet | apply zNil | apply zBlock | apply zExit | apply zBlkN | apply zBlkR | apply zBlkE | apply zSeqE | apply zLoopR | apply zLoopE | refine yYes' ?_ | refine yNo' ?_ | refine yNoU' ?_ | refine yLd' ?_ | refine yLdI' ?_ | refine yStS' ?_ | refine yStF' ?_ | refine ySt' ?_ | refine yBS' fun _ _ => ?_ | refine yAlloc' fun _ _ => ?_ | refine yBox' fun _ _ => ?_ | refine yOp' ?_ | refine yIfT ?_ | refine yIfF ?_ | refine yIf ?_ ?_ | refine ySplit' ?_ ?_ | refine yIfQ ?_ ?_ | refine ySplitQ' ?_ ?_ | refine yBlkX ?_ | intro _)
    exact zLoopN (p.1.length - (i + 1)) (by omega) ⟨rfl, i + 1, rfl, by omega, rfl, rfl, rfl, rfl, rfl, rfl⟩
  obtain rfl : i = p.1.length := by omega
  clear his hi hmm hwi
  have hle := sizeOf_le SZ
  have h0le := sizeOf_nonneg SZ
  obtain ⟨n, hn⟩ : ∃ n : Nat, (sizeOf SZ).toNat = n := ⟨_, rfl⟩
  have e70 : ∀ H', Fm ⟨H, []⟩ H' → F70 [zv, .int .i64 0] H' = some (mk (.agg [trC SZ, trS (List.replicate n 0)]) H') := by
    intro H' hF
    show (ints H' zv).bind _ = _
    rw [zz.out _ hF, Option.bind_some, if_pos (by omega), hn]
  repeat' (first | apply zSeq | apply zReg | apply zSeqN | apply zSeqR | apply zSkip | apply zRet | apply zNil | apply zBlock | apply zExit | apply zBlkN | apply zBlkR | apply zBlkE | apply zSeqE | apply zLoopR | apply zLoopE | refine yYes' ?_ | refine yNo' ?_ | refine yNoU' ?_ | refine yLd' ?_ | refine yLdI' ?_ | refine yStS' ?_ | refine yStF' ?_ | refine ySt' ?_ | refine yBS' fun _ _ => ?_ | refine yAlloc' fun _ _ => ?_ | refine yBox' fun _ _ => ?_ | refine yOp' ?_ | refine yIfT ?_ | refine yIfF ?_ | refine yIf ?_ ?_ | refine ySplit' ?_ ?_ | refine yIfQ ?_ ?_ | refine ySplitQ' ?_ ?_ | refine yBlkX ?_ | intro _)
  refine zCall' (F := F70) (t := .agg [trC SZ, trS (List.replicate n 0)]) rfl rfl rfl (fun H' hS hF => e70 H' hF) fun v => ?_
  refine zAgg2' fun shv dav h => ?_
  subst h
  refine zNum' .here (numsT_C (by omega)) fun os _ _ => ?_
  refine zNum' (.there .here) (numsT_S (by simp; omega)) fun od ld idv => ?_
  simp only [← alen38, ← aidx38, List.length_replicate] at ld idv
  repeat' (first | apply zSeq | apply zReg | apply zSeqN | apply zSeqR | apply zSkip | apply zRet | apply zNil | apply zBlock | apply zExit | apply zBlkN | apply zBlkR | apply zBlkE | apply zSeqE | apply zLoopR | apply zLoopE | refine yYes' ?_ | refine yNo' ?_ | refine yNoU' ?_ | refine yLd' ?_ | refine yLdI' ?_ | refine yStS' ?_ | refine yStF' ?_ | refine ySt' ?_ | refine yBS' fun _ _ => ?_ | refine yAlloc' fun _ _ => ?_ | refine yBox' fun _ _ => ?_ | refine yOp' ?_ | refine yIfT ?_ | refine yIfF ?_ | refine yIf ?_ ?_ | refine ySplit' ?_ ?_ | refine yIfQ ?_ ?_ | refine ySplitQ' ?_ ?_ | refine yBlkX ?_ | intro _)
  clear e70
  rename_i b9 v9
  obtain ⟨DT, hDT⟩ : ∃ DT, numsR p FR SZ = DT := ⟨_, rfl⟩
  have hDl : DT.length = n := by rw [← hDT, numsR, madeL_len, hn]
  have hnum := fun (i : Nat) (hi : (i : Int) < sizeOf SZ) => hok.num hi
  rw [hDT] at hnum hvv
  refine zLoop (fun m s1 L => ∃ (i : Nat) (D : List Int), m = n - i ∧ i ≤ n ∧ D.length = n ∧ D.take i = DT.take i ∧ get s1 1 = fv ∧ get s1 2 = zv ∧ get s1 3 = .ptr b3 v3 0 ∧ get s1 6 = .ptr b6 v6 0 ∧ get s1 9 = .ptr b9 v9 0 ∧ get s1 84 = .int .i64 n ∧ get s1 85 = .int .i64 i ∧ L = [(.ptr b9 v9 0, .bx [.at shv, .at dav]), (shv, trC SZ), (dav, trS D), (.ptr b6 v6 0, .bx [.at .nilS, .at .nilS]), (.ptr b3 v3 0, .bx [.at x, .at y])]) n ⟨0, _, rfl, Nat.zero_le _, by simp, by simp, rfl, rfl, rfl, rfl, rfl, rfl, rfl, rfl⟩ ?_
  rintro m2 s2 L2 ⟨i, D, hmm, hi, hDn, hD, g1, g2, g3, g4, g5, g6, g7, rfl⟩
  simp only [cut_cons, cut_nil, g1, g2, g3, g4, g5, g6, g7]
  clear g1 g2 g3 g4 g5 g6 g7
  have hwi : w ((i : Int) + 1) = ((i + 1 : Nat) : Int) := w_id (by omega)
  by_cases hin : i < n
  · have hin' : (i : Int) < n := by omega
    obtain ⟨n0, n1, n2⟩ := hnum i (by omega)
    have hml : (meshAt SZ i).length = p.1.length := by rw [meshAt_len, e2]
    have e41 : ∀ H', Fm ⟨H, []⟩ H' → F95 [zv, .int .i64 i] H' = some (mk (trF (meshAt SZ i)) H') := by
      intro H' hF
      simp only [F95, zz.out _ hF, Option.map_some, mk_F]
      rw [if_neg (by omega)]
    generalize hP : meshAt SZ i = PL at *
    repeat' (first | apply zSeq | apply zReg | apply zSeqN | apply zSeqR | apply zSkip | apply zRet | apply zNil | apply zBlock | apply zExit | apply zBlkN | apply zBlkR | apply zBlkE | apply zSeqE | apply zLoopR | apply zLoopE | refine yYes' ?_ | refine yNo' ?_ | refine yNoU' ?_ | refine yLd' ?_ | refine yLdI' ?_ | refine yStS' ?_ | refine yStF' ?_ | refine ySt' ?_ | refine yBS' fun _ _ => ?_ | refine yAlloc' fun _ _ => ?_ | refine yBox' fun _ _ => ?_ | refine yOp' ?_ | refine yIfT ?_ | refine yIfF ?_ | refine yIf ?_ ?_ | refine ySplit' ?_ ?_ | refine yIfQ ?_ ?_ | refine ySplitQ' ?_ ?_ | refine yBlkX ?_ | intro _)
    refine zCall' (F := F95) (t := trF PL) rfl rfl rfl (fun H' hS hF => e41 H' hF) fun pl => ?_
    refine zNum' .here (numsT_F (by omega)) fun op lp ip => ?_
    simp only [← alen22, ← aidx22, hml] at lp ip
    repeat' (first | apply zSeq | apply zReg | apply zSeqN | apply zSeqR | apply zSkip | apply zRet | apply zNil | apply zBlock | apply zExit | apply zBlkN | apply zBlkR | apply zBlkE | apply zSeqE | apply zLoopR | apply zLoopE | refine yYes' ?_ | refine yNo' ?_ | refine yNoU' ?_ | refine yLd' ?_ | refine yLdI' ?_ | refine yStS' ?_ | refine yStF' ?_ | refine ySt' ?_ | refine yBS' fun _ _ => ?_ | refine yAlloc' fun _ _ => ?_ | refine yBox' fun _ _ => ?_ | refine yOp' ?_ | refine yIfT ?_ | refine yIfF ?_ | refine yIf ?_ ?_ | refine ySplit' ?_ ?_ | refine yIfQ ?_ ?_ | refine ySplitQ' ?_ ?_ | refine yBlkX ?_ | intro _)
    clear e41
    refine zLoop (fun mm2 s2 L => ∃ j : Nat, mm2 = p.1.length - j ∧ j ≤ p.1.length ∧ get s2 1 = fv ∧ get s2 2 = zv ∧ get s2 3 = .ptr b3 v3 0 ∧ get s2 6 = .ptr b6 v6 0 ∧ get s2 9 = .ptr b9 v9 0 ∧ get s2 10 = .int .i64 i ∧ get s2 11 = pl ∧ get s2 84 = .int .i64 n ∧ get s2 85 = .int .i64 i ∧ get s2 92 = .int .i64 p.1.length ∧ get s2 93 = .int .i64 j ∧ L = [(pl, trF (addL (PL.take j) (FR.take j) ++ PL.drop j)), (.ptr b9 v9 0, .bx [.at shv, .at dav]), (shv, trC SZ), (dav, trS D), (.ptr b6 v6 0, .bx [.at .nilS, .at .nilS]), (.ptr b3 v3 0, .bx [.at x, .at y])]) p.1.length ⟨0, rfl, Nat.zero_le _, rfl, rfl, rfl, rfl, rfl, rfl, rfl, rfl, rfl, rfl, rfl, by simp [addL]⟩ ?_
    rintro mm2 s2 L2 ⟨j, hmm2, hj, g1, g2, g3, g4, g5, g6, g7, g8, g9, g10, g11, rfl⟩
    simp only [cut_cons, cut_nil, g1, g2, g3, g4, g5, g6, g7, g8, g9, g10, g11]
    clear g1 g2 g3 g4 g5 g6 g7 g8 g9 g10 g11
    have hwj : w ((j : Int) + 1) = ((j + 1 : Nat) : Int) := w_id (by omega)
    by_cases hjS : j < p.1.length
    · have hjS' : (j : Int) < p.1.length := by omega
      have hcl : (addL (PL.take j) (FR.take j) ++ PL.drop j).length = p.1.length := by simp [addL_len]; omega
      have hnt := nth_addL PL FR j (by omega)
      have htk := addL_take PL FR j (by omega) (by omega)
      generalize addL (PL.take j) (FR.take j) ++ PL.drop j = A at *
      repeat' (first | apply zSeq | apply zReg | apply zSeqN | apply zSeqR | apply zSkip | apply zRet | apply zNil | apply zBlock | apply zExit | apply zBlkN | apply zBlkR | apply zBlkE | apply zSeqE | apply zLoopR | apply zLoopE | refine yYes' ?_ | refine yNo' ?_ | refine yNoU' ?_ | refine yLd' ?_ | refine yLdI' ?_ | refine yStS' ?_ | refine yStF' ?_ | refine ySt' ?_ | refine yBS' fun _ _ => ?_ | refine yAlloc' fun _ _ => ?_ | refine yBox' fun _ _ => ?_ | refine yOp' ?_ | refine yIfT ?_ | refine yIfF ?_ | refine yIf ?_ ?_ | refine ySplit' ?_ ?_ | refine yIfQ ?_ ?_ | refine ySplitQ' ?_ ?_ | refine yBlkX ?_ | intro _)
      refine zLoopN (p.1.length - (j + 1)) (by omega) ⟨j + 1, rfl, by omega, rfl, rfl, rfl, rfl, rfl, rfl, rfl, rfl, rfl, rfl, rfl, ?_⟩
      rw [htk]
    obtain rfl : j = p.1.length := by omega
    have hall2 : addL (PL.take p.1.length) (FR.take p.1.length) ++ PL.drop p.1.length = addL PL FR := by
      rw [List.take_of_length_le (by omega), List.take_of_length_le (by omega), List.drop_of_length_le (by omega), List.append_nil]
    rw [hall2]
    clear hall2 hjS hwj hmm2 hj
    repeat' (first | apply zSeq | apply zReg | apply zSeqN | apply zSeqR | apply zSkip | apply zRet | apply zNil | apply zBlock | apply zExit | apply zBlkN | apply zBlkR | apply zBlkE | apply zSeqE | apply zLoopR | apply zLoopE | refine yYes' ?_ | refine yNo' ?_ | refine yNoU' ?_ | refine yLd' ?_ | refine yLdI' ?_ | refine yStS' ?_ | refine yStF' ?_ | refine ySt' ?_ | refine yBS' fun _ _ => ?_ | refine yAlloc' fun _ _ => ?_ | refine yBox' fun _ _ => ?_ | refine yOp' ?_ | refine yIfT ?_ | refine yIfF ?_ | refine yIf ?_ ?_ | refine ySplit' ?_ ?_ | refine yIfQ ?_ ?_ | refine ySplitQ' ?_ ?_ | refine yBlkX ?_ | intro _)
    refine zPure' (F := F163) (v := .int .i64 (nth DT i)) rfl rfl rfl (fun H1 hS hF => ?_) ?_
    · have h1 := hS.ints 0 rfl (numsT_F (l := addL PL FR) (by rw [addL_len]; omega))
      have h2 := tens_ext hF.pre' ht
      simp [F163, h1, h2, n0, n1, n2]
    repeat' (first | apply zSeq | apply zReg | apply zSeqN | apply zSeqR | apply zSkip | apply zRet | apply zNil | apply zBlock | apply zExit | apply zBlkN | apply zBlkR | apply zBlkE | apply zSeqE | apply zLoopR | apply zLoopE | refine yYes' ?_ | refine yNo' ?_ | refine yNoU' ?_ | refine yLd' ?_ | refine yLdI' ?_ | refine yStS' ?_ | refine yStF' ?_ | refine ySt' ?_ | refine yBS' fun _ _ => ?_ | refine yAlloc' fun _ _ => ?_ | refine yBox' fun _ _ => ?_ | refine yOp' ?_ | refine yIfT ?_ | refine yIfF ?_ | refine yIf ?_ ?_ | refine ySplit' ?_ ?_ | refine yIfQ ?_ ?_ | refine ySplitQ' ?_ ?_ | refine yBlkX ?_ | intro _)
    refine zDrop (zLoopN (n - (i + 1)) (by omega) ⟨i + 1, D.set i (nth DT i), rfl, by omega, by simp [hDn], ?_, rfl, rfl, rfl, rfl, rfl, rfl, rfl, rfl⟩)
    rw [take_set1 D i _ (by omega), take_nth DT i (by omega), hD]
  · obtain rfl : i = n := by omega
    obtain rfl : D = DT := by rwa [List.take_of_length_le (by omega), List.take_of_length_le (by omega)] at hD
    have hin' : ¬ (i : Int) < i := by omega
    repeat' (first | apply zSeq | apply zReg | apply zSeqN | apply zSeqR | apply zSkip | apply zRet | apply zNil | apply zBlock | apply zExit | apply zBlkN | apply zBlkR | apply zBlkE | apply zSeqE | apply zLoopR | apply zLoopE | refine yYes' ?_ | refine yNo' ?_ | refine yNoU' ?_ | refine yLd' ?_ | refine yLdI' ?_ | refine yStS' ?_ | refine yStF' ?_ | refine ySt' ?_ | refine yBS' fun _ _ => ?_ | refine yAlloc' fun _ _ => ?_ | refine yBox' fun _ _ => ?_ | refine yOp' ?_ | refine yIfT ?_ | refine yIfF ?_ | refine yIf ?_ ?_ | refine ySplit' ?_ ?_ | refine yIfQ ?_ ?_ | refine ySplitQ' ?_ ?_ | refine yBlkX ?_ | intro _)
    refine zFin (vs := [.agg [shv, dav], .int .i64 0]) (t := okTn (trC SZ) (trS D)) (by simp) (fun H1 hS => xr135 _ _ rfl (hS.ld (by repeat (first | exact Fd.here rfl | apply Fd.there)) rfl (by simp [ldT, lvs]) rfl) rfl) (by apply Exists.intro; repeat (first | exact Tks.nil | apply Tk.tup | apply Tk.agg | apply Tks.cons | exact Tk.leaf | (apply Tk.pick; repeat (first | exact Fr.here | apply Fr.there)))) (by simp [okTn, okT, okTs, okT_C, okT_S, old]) hvv.out
/- Plain law of TileShares: mesh by mesh. -/
/- Plain law of TileShares, as a whole. -/
theorem six_ok : ∀ m ∈ six, meshOK m = true ∧ 0 < devs m ∧ devs m ≤ 8 ∧ m.length ≤ 3 := by decide
section
variable {m s p : List Int} (hm : m ∈ six) (hs : ∀ x ∈ s, x ∈ lens) (h3 : s.length ≤ 3) (hl : p.length = s.length) (hp : specGo m.length [] p = true)
include hm hs h3 hl hp
theorem may_six {d : Nat} (hd : (d : Int) < devs m) : mayCut s m p d := by
  refine ⟨shape_3 h3 hs, ?_, by omega, hd⟩
  unfold specOK
  rw [if_neg (by simp [(six_ok m hm).1, hl])]
  exact hp
end
/- Plain law of SplitBack: what is parted is put together as it was. -/
theorem sameT_refl (p : TS) : sameT p p = true := by simp [sameT, sameL_refl]
/-! ### writes that are right -/
section
variable {D s fr sh dat : List Int}
end
/-- What a tensor, a mesh and a spec of a tape are. -/
structure Good (S D m P : List Int) : Prop where
  six : m ∈ six
  lens : ∀ x ∈ S, x ∈ lens
  s3 : S.length ≤ 3
  pl : P.length = S.length
  spec : specGo m.length [] P = true
  dl : D.length = (sizeOf S).toNat
section
variable {S D m P : List Int} (g : Good S D m P)
include g
theorem Good.shape : shapeOK S = true := shape_3 g.s3 g.lens
theorem Good.sok : specOK m P S.length = true := (may_six g.six g.lens g.s3 g.pl g.spec (d := 0) (six_ok m g.six).2.1).2.1
theorem Good.tok : tOK (S, D) = true := by
  have := g.dl
  have := sizeOf_nonneg S
  simp only [Pq.tOK, g.shape, Bool.true_and, decide_eq_true_eq]
  omega
theorem Good.may : mayL (S, D) m P = 0 := by
  unfold mayL
  rw [if_neg (by simp [g.tok]), if_neg (by simp [g.sok])]
theorem Good.ct {d : Nat} (h : (d : Int) < devs m) : mayCut S m P d := may_six g.six g.lens g.s3 g.pl g.spec h
theorem Good.dv : (devs m).toNat = devs m ∧ devs m ≤ 8 ∧ 0 < devs m := by have := six_ok m g.six; omega
theorem Good.sz7 {d : Nat} (h : (d : Int) < devs m) : (∀ x ∈ sizeL S m P d, 0 ≤ x ∧ x ≤ 7) ∧ (sizeL S m P d).length = S.length := by
  have hk : ∀ k ∈ P, k < m.length := fun k h => (spec_rng g.spec k h).2
  rw [sizeL_szs g.lens g.pl (g.ct h)]
  exact ⟨szs_rng g.six h S P g.lens hk, szs_len _ _ _ _ g.pl.symm⟩
end
theorem shape_7 {s : List Int} (h3 : s.length ≤ 3) (hr : ∀ x ∈ s, 0 ≤ x ∧ x ≤ 7) : shapeOK s = true := by
  have hp := prodW_3 h3 hr
  have key : ∀ (l : List Int) (n : Int), (∀ x ∈ l, 0 ≤ x ∧ x ≤ 7) → shapeGo n l = decide (prodW n l ≤ 4096) := by
    intro l
    induction l with
    | nil => intro n _; rfl
    | cons k l ih =>
      intro n hl
      have hk := hl k (by simp)
      simp only [shapeGo, prodW]
      rw [if_neg (by omega)]
      exact ih _ fun x hx => hl x (by simp [hx])
  unfold shapeOK
  rw [if_neg (by omega), key s 1 hr]
  simp only [decide_eq_true_eq]
  omega
section
variable {S D m P : List Int} (g : Good S D m P)
include g
theorem Good.part {d : Nat} (h : (d : Int) < devs m) : shapeOK (sizeL S m P d) = true ∧ sizeOf (sizeL S m P d) = prodW 1 (sizeL S m P d) ∧ (partD (S, D) m P d).length = sizeOf (sizeL S m P d) := by
  obtain ⟨h1, h2⟩ := g.sz7 h
  have hs := shape_7 (by have := g.s3; omega) h1
  refine ⟨hs, by simp [sizeOf, hs], ?_⟩
  unfold partD
  rw [madeL_len]
  have := sizeOf_nonneg (sizeL S m P d)
  show ((sizeOf (sizeL S m P d)).toNat : Int) = _
  omega
/-- The numbers of a part are the tensor's. -/
theorem Good.num {d i : Nat} (h : (d : Int) < devs m) (hi : i < (partD (S, D) m P d).length) : 0 ≤ idxL S (addL (meshAt (sizeL S m P d) (i : Nat)) (fromL S m P d)) ∧ idxL S (addL (meshAt (sizeL S m P d) (i : Nat)) (fromL S m P d)) < sizeOf S ∧ nth (partD (S, D) m P d) (i : Nat) = nth D (idxL S (addL (meshAt (sizeL S m P d) (i : Nat)) (fromL S m P d))) := by
  obtain ⟨h1, h2, h3⟩ := g.part h
  have hw := whole_in (g.ct h) h1 (i := (i : Int)) (by omega) (by omega)
  have hl : (addL (meshAt (sizeL S m P d) (i : Nat)) (fromL S m P d)).length = S.length := by rw [addL_len, meshAt_len, (g.sz7 h).2]
  have hin := idxL_in g.shape hl (fun j hj => (hw j hj).2)
  refine ⟨hin.1, hin.2, ?_⟩
  have e : nth (partD (S, D) m P d) (i : Nat) = atT (S, D) (addL (meshAt (sizeL S m P d) (i : Nat)) (fromL S m P d)) := by
    have hi' : i < (sizeOf (sizeL S m P d)).toNat := by rw [partD, madeL_len] at hi; exact hi
    simp [partD, madeL, nth, List.getD_eq_getElem?_getD, hi']
  have hp : plT (S, D) (addL (meshAt (sizeL S m P d) (i : Nat)) (fromL S m P d)) = idxL S (addL (meshAt (sizeL S m P d) (i : Nat)) (fromL S m P d)) := by
    unfold plT
    rw [if_pos g.tok]
  rw [e]
  unfold atT
  rw [hp, if_neg (by omega)]
end
section
variable {S D m P : List Int} (g : Good S D m P)
include g
end
/- Plain law of SplitFirsts: a part that was turned. -/
/-! ### writes beside a place -/
section
variable {s fr sh dat : List Int}
end
/-! ### copies -/
section
variable {S D m P : List Int} (g : Good S D m P)
include g
end
/-! ### parts of a length do not meet -/
section
variable {S D m P : List Int} (g : Good S D m P)
include g
end
section
variable {S D m P : List Int} (g : Good S D m P)
include g
end
/- Walks: SplitBack. -/
theorem made_good {l : List Int} (hr : In64 l) : Good (mdS l).1 (mdD l).1 (mdM l) (mdP l).1 := by
  obtain ⟨hk0, hk1⟩ := next_in hr 0 7 (by omega)
  obtain ⟨hn0, hn3⟩ := next_in hr (nextAt l 0 7) 4 (by omega)
  have h3 : (mdS l).1.length = (nextOf l (nextAt l 0 7) 4).toNat := shapeT_len l _ _
  refine ⟨?_, shapeT_mem hr _ _, by omega, specT_len l _ _ _ _, ?_, dataT_len l _ _⟩
  · have hlt : (nextOf l 0 7).toNat < seven.length := by simp [seven]; omega
    have : mdM l = seven[(nextOf l 0 7).toNat] := by
      simp only [mdM, List.getD_eq_getElem?_getD, List.getElem?_eq_getElem hlt, Option.getD_some]
    rw [this]
    have hsub : ∀ m ∈ seven, m ∈ six := by decide
    exact hsub _ (List.getElem_mem hlt)
  · exact specT_ok hr _ _ _ _ [] (by simp) (by simp)
theorem F31_at {H : Hp} {v : AV} {l : List Int} (hl : ints H v = some l) (hr : In64 l) : F31 [v] H = some (mk (madeTr l) H) := by
  show (ints H v).bind _ = _
  rw [hl, Option.bind_some, if_pos hr]
/- Walks: SplitFirsts. -/
/-! ### the cells of a list of tensors -/
theorem tensG_mk {H : Hp} : ∀ (L : List TS) (cs : List AV), cs.length = L.length * 2 → (∀ j : Nat, j < L.length → ∃ x y, (cs.drop (j * 2)).take 2 = [x, y] ∧ tens H (.agg [x, y]) = some (tth L j)) → tensG H cs = some L := by
  intro L
  induction L with
  | nil => intro cs h _; have : cs = [] := List.eq_nil_of_length_eq_zero (by simpa using h); subst this; rfl
  | cons p L ih =>
    intro cs h hi
    match cs, h with
    | [], h => simp at h
    | [_], h => simp at h; omega
    | x :: y :: cs, h =>
      obtain ⟨x', y', h1, h2⟩ := hi 0 (by simp)
      simp at h1
      obtain ⟨rfl, rfl⟩ := h1
      simp only [tensG]
      rw [h2, Option.bind_some, ih cs (by simp at h; omega) (fun j hj => by
        obtain ⟨u, v, g1, g2⟩ := hi (j + 1) (by simpa using hj)
        refine ⟨u, v, ?_, by simpa [tth] using g2⟩
        have : (j + 1) * 2 = j * 2 + 2 := by omega
        rw [this] at g1
        simpa using g1)]
      simp [tth]
theorem set2_at (vs : List AV) (k j : Nat) (x y : AV) (h : k * 2 + 2 ≤ vs.length) : (((vs.set (k * 2) x).set (k * 2 + 1) y).drop (j * 2)).take 2 = if j = k then [x, y] else (vs.drop (j * 2)).take 2 := by
  by_cases hjk : j = k
  · subst hjk
    rw [if_pos rfl]
    refine List.ext_getElem? fun i => ?_
    simp only [List.getElem?_take, List.getElem?_drop, List.getElem?_set]
    match i with
    | 0 => simp; omega
    | 1 => simp; omega
    | i + 2 => simp; omega
  · rw [if_neg hjk]
    refine List.ext_getElem? fun i => ?_
    simp only [List.getElem?_take, List.getElem?_drop]
    by_cases hi : i < 2
    · rw [if_pos hi, if_pos hi, List.getElem?_set_ne (by omega), List.getElem?_set_ne (by omega)]
    · rw [if_neg hi, if_neg hi]
@[simp] theorem fa40_at0 (b v o : Nat) : afaddr' T 40 (.ptr b v o) 0 = some (.ptr b v o) := by simp
theorem F40_at {H : Hp} {a b c : AV} {s sz sp : List Int} (ha : ints H a = some s) (hb : ints H b = some sz) (hc : ints H c = some sp) (d : Int) : F40 [a, b, c, .int .i64 d] H = some (mk (tileTr s sz sp d) H) := by
  show (ints H a).bind _ = _
  rw [ha, Option.bind_some, hb, Option.bind_some, hc, Option.map_some]
/- Walks: the document's Part, All; lists of tensors held against each other; 'same'. -/
/-! ### a part's shape is one -/
theorem shapeGo_mono : ∀ (l l' : List Int) (n n' : Int) (k : Nat), l.length = l'.length → k + l.length ≤ 4 → (∀ j : Nat, j < l.length → 0 ≤ nth l' j ∧ nth l' j ≤ nth l j ∧ nth l j ≤ 32) → 0 ≤ n' → n' ≤ n → n ≤ ((32 ^ k : Nat) : Int) → shapeGo n l = true → shapeGo n' l' = true := by
  intro l
  induction l with
  | nil =>
    intro l' n n' k hl _ _ h0 h1 _ h
    have : l' = [] := List.eq_nil_of_length_eq_zero hl.symm
    subst this
    simp only [shapeGo, decide_eq_true_eq] at h ⊢
    omega
  | cons a l ih =>
    intro l' n n' k hl hk hr h0 h1 h2 h
    cases l' with
    | nil => simp at hl
    | cons a' l' =>
      have hr0 := hr 0 (by simp)
      simp [nth] at hr0
      simp only [shapeGo] at h ⊢
      split at h
      · cases h
      · rw [if_neg (by omega)]
        simp only [List.length_cons] at hk hl
        have hp : 32 ^ k ≤ 32 ^ 3 := Nat.pow_le_pow_right (by decide) (by omega)
        have hp2 : ((32 ^ (k + 1) : Nat) : Int) = ((32 ^ k : Nat) : Int) * 32 := by rw [Nat.pow_succ]; simp
        have h3 : (32 : Nat) ^ 3 = 32768 := by decide
        have m1 := mul_rng (a := n) (b := a) (A := ((32 ^ k : Nat) : Int)) (B := 32) (by omega) (by omega)
        have m2 : n' * a' ≤ n * a := Int.mul_le_mul h1 hr0.2.1 hr0.1 (by omega)
        have m3 : 0 ≤ n' * a' := Int.mul_nonneg h0 hr0.1
        rw [w_id (x := n * a) (by omega)] at h
        rw [w_id (x := n' * a') (by omega)]
        exact ih l' _ _ (k + 1) (by omega) (by omega) (fun j hj => by simpa [nth] using hr (j + 1) (by simpa using hj)) m3 m2 (by omega) h
theorem part_shape {s sz sp : List Int} {d : Int} (h : mayCut s sz sp d) : shapeOK (sizeL s sz sp d) = true := by
  obtain ⟨h1, h2, h3⟩ := part_rng h
  obtain ⟨h4, h5⟩ := shapeOK_rng h.1
  have hs := h.1
  unfold shapeOK at hs ⊢
  rw [if_neg (by omega)] at hs ⊢
  refine shapeGo_mono s _ 1 1 0 h2.symm (by omega) (fun j hj => ?_) (by omega) (by omega) (by simp) hs
  have g1 := h3 j hj
  have g2 := h5 j hj
  have g3 := sliced_part h
  omega
theorem part_sl {p : TS} {sz sp : List Int} {d : Int} (hm : mayL p sz sp = 0) (h0 : 0 ≤ d) (h1 : d < devs sz) : SlOK p (fromL p.1 sz sp d) (sizeL p.1 sz sp d) := by
  obtain ⟨ht, hsp⟩ := mayL_zero hm
  have hsh : shapeOK p.1 = true := by simp [tOK] at ht; exact ht.1
  have hc : mayCut p.1 sz sp d := ⟨hsh, hsp, h0, h1⟩
  obtain ⟨g1, g2, g3⟩ := part_rng hc
  exact ⟨ht, g1, g2, g3, part_shape hc⟩
theorem mayS_L (p : TS) (sz sp : List Int) (ht : tOK p = true) : mayS p.1 sz sp = decide (mayL p sz sp = 0) := by
  have h1 : shapeOK p.1 = true := by simp [tOK] at ht; exact ht.1
  rcases h2 : specOK sz sp p.1.length with _ | _
  · simp [mayS, mayL, ht, h1, h2]
  · have := (specOK_lt h2).2.1
    simp [mayS, mayL, ht, h1, h2, this]
/-! ### the document's Part -/
noncomputable def partR (p : TS) (sz sp : List Int) (d : Int) : Tr :=
  if mayL p sz sp = 0 then (if d < 0 ∨ devs sz ≤ d then zeroT 23 else okTn (trC (sizeL p.1 sz sp d)) (trS (partD p sz sp d))) else zeroT (mayL p sz sp)
noncomputable def F82 (args : List AV) (H : Hp) : Option (AV × Hp) := match args with
  | [t, a, b, .int .i64 d] => (tens H t).bind fun p => (ints H a).bind fun sz => (ints H b).map fun sp => mk (partR p sz sp d) H
  | _ => none
theorem okT_zero (c : Nat) (e : Int) : okT c (zeroT e) = true := by simp [zeroT, okT, okTs, old]
set_option maxHeartbeats 4000000 in
theorem snd82 : Sound Try.prog 82 (FSem.eff F82).run := by
  refine sound_of hT (EOK_cons snd20 (EOK_cons snd40 (EOK_cons snd84 (EOK_cons snd85 (EOK_cons snd135 (EOK_nil _)))))) mixed A82 Try.func82 hb82 (by kernel_rfl) (by kernel_rfl) (by kernel_rfl) (by kernel_rfl) sh82 4 (by kernel_rfl) rs82 hr82 ?_
  intro args H r H' hw h
  have hv : F82 args H = some (r, H') := h
  clear h
  unfold F82 at hv
  split at hv
  rotate_left
  · cases hv
  rename_i t a b dd
  obtain ⟨p, ht, hv⟩ := Option.bind_eq_some_iff.1 hv
  obtain ⟨sz, hsz, hv⟩ := Option.bind_eq_some_iff.1 hv
  obtain ⟨sp, hsp, hv⟩ := Option.map_eq_some_iff.1 hv
  have hvv := Hide.mk hv
  clear hv
  obtain ⟨x, y, rfl, hx, hy⟩ := tens_some ht
  have ox := ints_one' hx
  have oy := ints_one' hy
  have zx := Fz.of hx
  have za := Fz.of hsz
  have zb := Fz.of hsp
  have e84 : ∀ H', Fm ⟨H, []⟩ H' → F91 [.agg [x, y]] H' = some (.bool (tOK p)) := fun H' hF => by simp [F91, tens_ext hF.pre' ht]
  have e85 : ∀ H', Fm ⟨H, []⟩ H' → F85 [x, a, b] H' = some (.bool (mayS p.1 sz sp)) := fun H' hF => by simp [zx.out _ hF, za.out _ hF, zb.out _ hF]
  have e20 : ∀ H', Fm ⟨H, []⟩ H' → F20 [a] H' = some (.int .i64 (devs sz)) := fun H' hF => by simp [za.out _ hF, rDevs_eq]
  have e40 : ∀ H', Fm ⟨H, []⟩ H' → F40 [x, a, b, .int .i64 dd] H' = some (mk (tileTr p.1 sz sp dd) H') := fun H' hF => F40_at (zx.out _ hF) (za.out _ hF) (zb.out _ hF) dd
  refine ⟨rfl, go (zStart (SL.nil hw []) ?_)⟩
  unfold c82
  simp only [argSl]
  have fin : ∀ e : Int, partR p sz sp dd = zeroT e → mk (zeroT e) H = (r, H') := fun e h => by rw [← h]; exact hvv.out
  rcases h1 : tOK p with _ | _
  · rw [h1] at e84
    repeat' (first | apply zSeq | apply zReg | apply zSeqN | apply zSeqR | apply zSkip | apply zRet | apply zNil | apply zBlock | apply zExit | apply zBlkN | apply zBlkR | apply zBlkE | apply zSeqE | apply zLoopR | apply zLoopE | refine yYes' ?_ | refine yNo' ?_ | refine yNoU' ?_ | refine yLd' ?_ | refine yLdI' ?_ | refine yStS' ?_ | refine yStF' ?_ | refine ySt' ?_ | refine yBS' fun _ _ => ?_ | refine yAlloc' fun _ _ => ?_ | refine yBox' fun _ _ => ?_ | refine yOp' ?_ | refine yIfT ?_ | refine yIfF ?_ | refine yIf ?_ ?_ | refine ySplit' ?_ ?_ | refine yIfQ ?_ ?_ | refine ySplitQ' ?_ ?_ | refine yBlkX ?_ | intro _)
    exact zFin (vs := [.agg [.nilS, .nilS], .int .i64 13]) (t := zeroT 13) (by simp) (fun H1 hS => xres2c rfl rfl (hS.ld (by repeat (first | exact Fd.here rfl | apply Fd.there)) rfl (by simp [ldT, lvs]) rfl)) ⟨_, Tk.tup (.cons (.agg (.cons .leaf (.cons .leaf .nil))) (.cons .leaf .nil))⟩ (okT_zero _ _) (fin 13 (by simp [partR, mayL, h1]))
  rw [h1] at e84
  rw [mayS_L p sz sp h1] at e85
  by_cases h2 : mayL p sz sp = 0
  rotate_left
  · have h3 : mayL p sz sp = 1 := by
      unfold mayL at h2 ⊢
      rw [if_neg (by simp [h1])] at h2 ⊢
      split at h2
      · rename_i h; simp [h]
      · exact absurd rfl h2
    repeat' (first | apply zSeq | apply zReg | apply zSeqN | apply zSeqR | apply zSkip | apply zRet | apply zNil | apply zBlock | apply zExit | apply zBlkN | apply zBlkR | apply zBlkE | apply zSeqE | apply zLoopR | apply zLoopE | refine yYes' ?_ | refine yNo' ?_ | refine yNoU' ?_ | refine yLd' ?_ | refine yLdI' ?_ | refine yStS' ?_ | refine yStF' ?_ | refine ySt' ?_ | refine yBS' fun _ _ => ?_ | refine yAlloc' fun _ _ => ?_ | refine yBox' fun _ _ => ?_ | refine yOp' ?_ | refine yIfT ?_ | refine yIfF ?_ | refine yIf ?_ ?_ | refine ySplit' ?_ ?_ | refine yIfQ ?_ ?_ | refine ySplitQ' ?_ ?_ | refine yBlkX ?_ | intro _)
    exact zFin (vs := [.agg [.nilS, .nilS], .int .i64 1]) (t := zeroT 1) (by simp) (fun H1 hS => xres2c rfl rfl (hS.ld (by repeat (first | exact Fd.here rfl | apply Fd.there)) rfl (by simp [ldT, lvs]) rfl)) ⟨_, Tk.tup (.cons (.agg (.cons .leaf (.cons .leaf .nil))) (.cons .leaf .nil))⟩ (okT_zero _ _) (fin 1 (by simp [partR, h2, h3]))
  by_cases h3 : dd < 0
  · repeat' (first | apply zSeq | apply zReg | apply zSeqN | apply zSeqR | apply zSkip | apply zRet | apply zNil | apply zBlock | apply zExit | apply zBlkN | apply zBlkR | apply zBlkE | apply zSeqE | apply zLoopR | apply zLoopE | refine yYes' ?_ | refine yNo' ?_ | refine yNoU' ?_ | refine yLd' ?_ | refine yLdI' ?_ | refine yStS' ?_ | refine yStF' ?_ | refine ySt' ?_ | refine yBS' fun _ _ => ?_ | refine yAlloc' fun _ _ => ?_ | refine yBox' fun _ _ => ?_ | refine yOp' ?_ | refine yIfT ?_ | refine yIfF ?_ | refine yIf ?_ ?_ | refine ySplit' ?_ ?_ | refine yIfQ ?_ ?_ | refine ySplitQ' ?_ ?_ | refine yBlkX ?_ | intro _)
    exact zFin (vs := [.agg [.nilS, .nilS], .int .i64 23]) (t := zeroT 23) (by simp) (fun H1 hS => xres2c rfl rfl (hS.ld (by repeat (first | exact Fd.here rfl | apply Fd.there)) rfl (by simp [ldT, lvs]) rfl)) ⟨_, Tk.tup (.cons (.agg (.cons .leaf (.cons .leaf .nil))) (.cons .leaf .nil))⟩ (okT_zero _ _) (fin 23 (by simp [partR, h2, h3]))
  by_cases h4 : devs sz ≤ dd
  · repeat' (first | apply zSeq | apply zReg | apply zSeqN | apply zSeqR | apply zSkip | apply zRet | apply zNil | apply zBlock | apply zExit | apply zBlkN | apply zBlkR | apply zBlkE | apply zSeqE | apply zLoopR | apply zLoopE | refine yYes' ?_ | refine yNo' ?_ | refine yNoU' ?_ | refine yLd' ?_ | refine yLdI' ?_ | refine yStS' ?_ | refine yStF' ?_ | refine ySt' ?_ | refine yBS' fun _ _ => ?_ | refine yAlloc' fun _ _ => ?_ | refine yBox' fun _ _ => ?_ | refine yOp' ?_ | refine yIfT ?_ | refine yIfF ?_ | refine yIf ?_ ?_ | refine ySplit' ?_ ?_ | refine yIfQ ?_ ?_ | refine ySplitQ' ?_ ?_ | refine yBlkX ?_ | intro _)
    exact zFin (vs := [.agg [.nilS, .nilS], .int .i64 23]) (t := zeroT 23) (by simp) (fun H1 hS => xres2c rfl rfl (hS.ld (by repeat (first | exact Fd.here rfl | apply Fd.there)) rfl (by simp [ldT, lvs]) rfl)) ⟨_, Tk.tup (.cons (.agg (.cons .leaf (.cons .leaf .nil))) (.cons .leaf .nil))⟩ (okT_zero _ _) (fin 23 (by simp [partR, h2, h4]))
  have hok := part_sl h2 (by omega) (by omega : dd < devs sz)
  have hres : partR p sz sp dd = okTn (trC (sizeL p.1 sz sp dd)) (trS (partD p sz sp dd)) := by simp [partR, h2, h3, h4]
  have hp4 := (shapeOK_rng hok.shape.1).1
  have hl1 := hok.fl
  have hl2 := hok.zl
  have hdl := partD_len p sz sp dd
  repeat' (first | apply zSeq | apply zReg | apply zSeqN | apply zSeqR | apply zSkip | apply zRet | apply zNil | apply zBlock | apply zExit | apply zBlkN | apply zBlkR | apply zBlkE | apply zSeqE | apply zLoopR | apply zLoopE | refine yYes' ?_ | refine yNo' ?_ | refine yNoU' ?_ | refine yLd' ?_ | refine yLdI' ?_ | refine yStS' ?_ | refine yStF' ?_ | refine ySt' ?_ | refine yBS' fun _ _ => ?_ | refine yAlloc' fun _ _ => ?_ | refine yBox' fun _ _ => ?_ | refine yOp' ?_ | refine yIfT ?_ | refine yIfF ?_ | refine yIf ?_ ?_ | refine ySplit' ?_ ?_ | refine yIfQ ?_ ?_ | refine ySplitQ' ?_ ?_ | refine yBlkX ?_ | intro _)
  refine zCall' (F := F40) (t := tileTr p.1 sz sp dd) rfl rfl rfl (fun H1 hS hF => e40 H1 hF) fun v => ?_
  refine zTup2' fun fv zv h => ?_
  subst h
  repeat' (first | apply zSeq | apply zReg | apply zSeqN | apply zSeqR | apply zSkip | apply zRet | apply zNil | apply zBlock | apply zExit | apply zBlkN | apply zBlkR | apply zBlkE | apply zSeqE | apply zLoopR | apply zLoopE | refine yYes' ?_ | refine yNo' ?_ | refine yNoU' ?_ | refine yLd' ?_ | refine yLdI' ?_ | refine yStS' ?_ | refine yStF' ?_ | refine ySt' ?_ | refine yBS' fun _ _ => ?_ | refine yAlloc' fun _ _ => ?_ | refine yBox' fun _ _ => ?_ | refine yOp' ?_ | refine yIfT ?_ | refine yIfF ?_ | refine yIf ?_ ?_ | refine ySplit' ?_ ?_ | refine yIfQ ?_ ?_ | refine ySplitQ' ?_ ?_ | refine yBlkX ?_ | intro _)
  refine zCall' (F := F135) (args := [.agg [x, y], fv, zv]) (t := okTn (trC (sizeL p.1 sz sp dd)) (trS (partD p sz sp dd))) rfl rfl rfl (fun H1 hS hF => ?_) fun v => ?_
  · have g1 := hS.ints 0 rfl (numsT_S (l := fromL p.1 sz sp dd) (by omega))
    have g2 := hS.ints 1 rfl (numsT_S (l := sizeL p.1 sz sp dd) (by omega))
    have g3 := tens_ext hF.pre' ht
    show (tens H1 _).bind _ = _
    rw [g3, Option.bind_some]
    rw [g1, Option.bind_some, g2, Option.bind_some, if_pos hok]
    rfl
  refine zTup2' fun tv ev h => ?_
  subst h
  refine zAgg2' fun shv dav h => ?_
  subst h
  refine zAt' (.there (.there .here)) fun h => ?_
  subst h
  refine zNum' .here (numsT_C (by omega)) fun os _ _ => ?_
  refine zNum' (.there .here) (numsT_S (by omega)) fun od _ _ => ?_
  repeat' (first | apply zSeq | apply zReg | apply zSeqN | apply zSeqR | apply zSkip | apply zRet | apply zNil | apply zBlock | apply zExit | apply zBlkN | apply zBlkR | apply zBlkE | apply zSeqE | apply zLoopR | apply zLoopE | refine yYes' ?_ | refine yNo' ?_ | refine yNoU' ?_ | refine yLd' ?_ | refine yLdI' ?_ | refine yStS' ?_ | refine yStF' ?_ | refine ySt' ?_ | refine yBS' fun _ _ => ?_ | refine yAlloc' fun _ _ => ?_ | refine yBox' fun _ _ => ?_ | refine yOp' ?_ | refine yIfT ?_ | refine yIfF ?_ | refine yIf ?_ ?_ | refine ySplit' ?_ ?_ | refine yIfQ ?_ ?_ | refine ySplitQ' ?_ ?_ | refine yBlkX ?_ | intro _)
  refine zFin (vs := [.agg [shv, dav], .int .i64 0]) (t := okTn (trC (sizeL p.1 sz sp dd)) (trS (partD p sz sp dd))) (by simp) (fun H1 hS => xres2c rfl rfl (hS.ld (by repeat (first | exact Fd.here rfl | apply Fd.there)) rfl (by simp [ldT, lvs]) rfl)) (by apply Exists.intro; repeat (first | exact Tks.nil | apply Tk.tup | apply Tk.agg | apply Tks.cons | exact Tk.leaf | (apply Tk.pick; repeat (first | exact Fr.here | apply Fr.there)))) (by simp [okTn, okT, okTs, okT_C, okT_S, old]) (by rw [← hres]; exact hvv.out)
/-! ### the document's All -/
noncomputable def partsR (p : TS) (sz sp : List Int) (n : Nat) : List (Tr × Tr) := (List.range n).map fun (d : Nat) => (trC (sizeL p.1 sz sp d), trS (partD p sz sp d))
theorem partsR_succ (p : TS) (sz sp : List Int) (n : Nat) : partsR p sz sp (n + 1) = partsR p sz sp n ++ [(trC (sizeL p.1 sz sp n), trS (partD p sz sp n))] := by
  simp [partsR, List.range_succ]
theorem partsR_len (p : TS) (sz sp : List Int) (n : Nat) : (partsR p sz sp n).length = n := by simp [partsR]
noncomputable def allR (p : TS) (sz sp : List Int) : Tr := if mayL p sz sp = 0 then .tup [trTs (partsR p sz sp (devs sz).toNat), .at (.int .i64 0)] else .tup [.at .nilS, .at (.int .i64 (mayL p sz sp))]
noncomputable def F34 (args : List AV) (H : Hp) : Option (AV × Hp) := match args with
  | [t, a, b] => (tens H t).bind fun p => (ints H a).bind fun sz => (ints H b).map fun sp => mk (allR p sz sp) H
  | _ => none
theorem okT_TsR (c : Nat) (p : TS) (sz sp : List Int) (n : Nat) : okT c (trTs (partsR p sz sp n)) = true := by
  have h : okTs c (cellsT (partsR p sz sp n)) = true := by
    induction n with
    | zero => rfl
    | succ n ih =>
      have : cellsT (partsR p sz sp (n + 1)) = cellsT (partsR p sz sp n) ++ [trC (sizeL p.1 sz sp n), trS (partD p sz sp n)] := by rw [partsR_succ]; simp [cellsT]
      rw [this, okTs_app, ih]
      simp [okTs, okT_S, okT_C]
  unfold trTs trG
  split
  · rfl
  · exact h
set_option maxHeartbeats 4000000 in
theorem snd34 : Sound Try.prog 34 (FSem.eff F34).run := by
  refine sound_of hT (EOK_cons snd20 (EOK_cons snd82 (EOK_cons snd84 (EOK_cons snd85 (EOK_nil _))))) mixed A34 Try.func34 hb34 (by kernel_rfl) (by kernel_rfl) (by kernel_rfl) (by kernel_rfl) sh34 3 (by kernel_rfl) rs34 hr34 ?_
  intro args H r H' hw h
  have hv : F34 args H = some (r, H') := h
  clear h
  unfold F34 at hv
  split at hv
  rotate_left
  · cases hv
  rename_i t a b
  obtain ⟨p, ht, hv⟩ := Option.bind_eq_some_iff.1 hv
  obtain ⟨sz, hsz, hv⟩ := Option.bind_eq_some_iff.1 hv
  obtain ⟨sp, hsp, hv⟩ := Option.map_eq_some_iff.1 hv
  have hvv := Hide.mk hv
  clear hv
  obtain ⟨x, y, rfl, hx, hy⟩ := tens_some ht
  have ox := ints_one' hx
  have oy := ints_one' hy
  have zx := Fz.of hx
  have za := Fz.of hsz
  have zb := Fz.of hsp
  have e84 : ∀ H', Fm ⟨H, []⟩ H' → F91 [.agg [x, y]] H' = some (.bool (tOK p)) := fun H' hF => by simp [F91, tens_ext hF.pre' ht]
  have e85 : ∀ H', Fm ⟨H, []⟩ H' → F85 [x, a, b] H' = some (.bool (mayS p.1 sz sp)) := fun H' hF => by simp [zx.out _ hF, za.out _ hF, zb.out _ hF]
  have e20 : ∀ H', Fm ⟨H, []⟩ H' → F20 [a] H' = some (.int .i64 (devs sz)) := fun H' hF => by simp [za.out _ hF, rDevs_eq]
  have e82 : ∀ (dd : Int) H', Fm ⟨H, []⟩ H' → F82 [.agg [x, y], a, b, .int .i64 dd] H' = some (mk (partR p sz sp dd) H') := fun dd H' hF => by
    show (tens H' _).bind _ = _
    rw [tens_ext hF.pre' ht, Option.bind_some, za.out _ hF, Option.bind_some, zb.out _ hF, Option.map_some]
  refine ⟨rfl, go (zStart (SL.nil hw []) ?_)⟩
  unfold c34
  simp only [argSl]
  have fin : ∀ e : Int, mayL p sz sp = e → e ≠ 0 → mk (.tup [.at .nilS, .at (.int .i64 e)]) H = (r, H') := fun e h h0 => by rw [← hvv.out]; simp [allR, h, h0]
  rcases h1 : tOK p with _ | _
  · rw [h1] at e84
    repeat' (first | apply zSeq | apply zReg | apply zSeqN | apply zSeqR | apply zSkip | apply zRet | apply zNil | apply zBlock | apply zExit | apply zBlkN | apply zBlkR | apply zBlkE | apply zSeqE | apply zLoopR | apply zLoopE | refine yYes' ?_ | refine yNo' ?_ | refine yNoU' ?_ | refine yLd' ?_ | refine yLdI' ?_ | refine yStS' ?_ | refine yStF' ?_ | refine ySt' ?_ | refine yBS' fun _ _ => ?_ | refine yAlloc' fun _ _ => ?_ | refine yBox' fun _ _ => ?_ | refine yOp' ?_ | refine yIfT ?_ | refine yIfF ?_ | refine yIf ?_ ?_ | refine ySplit' ?_ ?_ | refine yIfQ ?_ ?_ | refine ySplitQ' ?_ ?_ | refine yBlkX ?_ | intro _)
    exact zFin (vs := [.nilS, .int .i64 13]) (t := .tup [.at .nilS, .at (.int .i64 13)]) (by simp) (fun H1 hS => by simp [rs34]) ⟨_, Tk.tup (.cons .leaf (.cons .leaf .nil))⟩ (by simp [okT, okTs, old]) (fin 13 (by simp [mayL, h1]) (by decide))
  rw [h1] at e84
  rw [mayS_L p sz sp h1] at e85
  by_cases h2 : mayL p sz sp = 0
  rotate_left
  · have h3 : mayL p sz sp = 1 := by
      unfold mayL at h2 ⊢
      rw [if_neg (by simp [h1])] at h2 ⊢
      split at h2
      · rename_i h; simp [h]
      · exact absurd rfl h2
    repeat' (first | apply zSeq | apply zReg | apply zSeqN | apply zSeqR | apply zSkip | apply zRet | apply zNil | apply zBlock | apply zExit | apply zBlkN | apply zBlkR | apply zBlkE | apply zSeqE | apply zLoopR | apply zLoopE | refine yYes' ?_ | refine yNo' ?_ | refine yNoU' ?_ | refine yLd' ?_ | refine yLdI' ?_ | refine yStS' ?_ | refine yStF' ?_ | refine ySt' ?_ | refine yBS' fun _ _ => ?_ | refine yAlloc' fun _ _ => ?_ | refine yBox' fun _ _ => ?_ | refine yOp' ?_ | refine yIfT ?_ | refine yIfF ?_ | refine yIf ?_ ?_ | refine ySplit' ?_ ?_ | refine yIfQ ?_ ?_ | refine ySplitQ' ?_ ?_ | refine yBlkX ?_ | intro _)
    exact zFin (vs := [.nilS, .int .i64 1]) (t := .tup [.at .nilS, .at (.int .i64 1)]) (by simp) (fun H1 hS => by simp [rs34]) ⟨_, Tk.tup (.cons .leaf (.cons .leaf .nil))⟩ (by simp [okT, okTs, old]) (fin 1 h3 (by decide))
  have hD8 := devs_le sz
  have hD1 := devs_pos (specOK_lt (mayL_zero h2).2).2.1
  obtain ⟨D, hD⟩ : ∃ D : Nat, devs sz = D := ⟨(devs sz).toNat, by omega⟩
  have hres : mk (.tup [trTs (partsR p sz sp D), .at (.int .i64 0)]) H = (r, H') := by rw [← hvv.out]; simp [allR, h2, hD]
  rw [hD] at e20
  have hp4 := (shapeOK_rng (part_sl h2 (Int.le_refl 0) (by omega)).shape.1).1
  repeat' (first | apply zSeq | apply zReg | apply zSeqN | apply zSeqR | apply zSkip | apply zRet | apply zNil | apply zBlock | apply zExit | apply zBlkN | apply zBlkR | apply zBlkE | apply zSeqE | apply zLoopR | apply zLoopE | refine yYes' ?_ | refine yNo' ?_ | refine yNoU' ?_ | refine yLd' ?_ | refine yLdI' ?_ | refine yStS' ?_ | refine yStF' ?_ | refine ySt' ?_ | refine yBS' fun _ _ => ?_ | refine yAlloc' fun _ _ => ?_ | refine yBox' fun _ _ => ?_ | refine yOp' ?_ | refine yIfT ?_ | refine yIfF ?_ | refine yIf ?_ ?_ | refine ySplit' ?_ ?_ | refine yIfQ ?_ ?_ | refine ySplitQ' ?_ ?_ | refine yBlkX ?_ | intro _)
  rename_i b3 v3
  refine zG (fun H1 hS => hS.nilG 2) ?_
  refine zLoop (fun m s1 L => ∃ (d : Nat) (u : AV), m = D - d ∧ d ≤ D ∧ get s1 1 = a ∧ get s1 2 = b ∧ get s1 3 = .ptr b3 v3 0 ∧ get s1 8 = u ∧ get s1 9 = .int .i64 d ∧ L = [(u, trG d 2 (cellsT (partsR p sz sp d))), (.ptr b3 v3 0, .bx [.at x, .at y])]) D ⟨0, .nilS, rfl, Nat.zero_le _, rfl, rfl, rfl, rfl, rfl, by simp [partsR, cellsT]⟩ ?_
  rintro m s1 L ⟨d, u, hmm, hd, g1, g2, g3, g4, g5, rfl⟩
  simp only [cut_cons, cut_nil, g1, g2, g3, g4, g5]
  clear g1 g2 g3 g4 g5
  have hwd : w ((d : Int) + 1) = ((d + 1 : Nat) : Int) := w_id (by omega)
  by_cases hdD : d < D
  · have hdD' : (d : Int) < D := by omega
    have hok := part_sl h2 (Int.natCast_nonneg d) (by omega)
    have hpr : partR p sz sp d = okTn (trC (sizeL p.1 sz sp d)) (trS (partD p sz sp d)) := by simp [partR, h2, hD, show ¬ (d : Int) < 0 by omega, show ¬ D ≤ d by omega]
    have e82' := e82 d
    rw [hpr] at e82'
    have hl2 := hok.zl
    have hdl := partD_len p sz sp d
    have hps := partsR_succ p sz sp d
    generalize sizeL p.1 sz sp d = SZ at *
    generalize partD p sz sp d = PD at *
    repeat' (first | apply zSeq | apply zReg | apply zSeqN | apply zSeqR | apply zSkip | apply zRet | apply zNil | apply zBlock | apply zExit | apply zBlkN | apply zBlkR | apply zBlkE | apply zSeqE | apply zLoopR | apply zLoopE | refine yYes' ?_ | refine yNo' ?_ | refine yNoU' ?_ | refine yLd' ?_ | refine yLdI' ?_ | refine yStS' ?_ | refine yStF' ?_ | refine ySt' ?_ | refine yBS' fun _ _ => ?_ | refine yAlloc' fun _ _ => ?_ | refine yBox' fun _ _ => ?_ | refine yOp' ?_ | refine yIfT ?_ | refine yIfF ?_ | refine yIf ?_ ?_ | refine ySplit' ?_ ?_ | refine yIfQ ?_ ?_ | refine ySplitQ' ?_ ?_ | refine yBlkX ?_ | intro _)
    refine zCall' (F := F82) (args := [.agg [x, y], a, b, .int .i64 d]) (t := okTn (trC SZ) (trS PD)) rfl rfl rfl (fun H1 hS hF => e82' H1 hF) fun v => ?_
    refine zTup2' fun tv ev h => ?_
    subst h
    refine zAgg2' fun shv dav h => ?_
    subst h
    refine zAt' (.there (.there .here)) fun h => ?_
    subst h
    refine zNum' .here (numsT_C (by omega)) fun os _ _ => ?_
    refine zNum' (.there .here) (numsT_S (by omega)) fun od _ _ => ?_
    repeat' (first | apply zSeq | apply zReg | apply zSeqN | apply zSeqR | apply zSkip | apply zRet | apply zNil | apply zBlock | apply zExit | apply zBlkN | apply zBlkR | apply zBlkE | apply zSeqE | apply zLoopR | apply zLoopE | refine yYes' ?_ | refine yNo' ?_ | refine yNoU' ?_ | refine yLd' ?_ | refine yLdI' ?_ | refine yStS' ?_ | refine yStF' ?_ | refine ySt' ?_ | refine yBS' fun _ _ => ?_ | refine yAlloc' fun _ _ => ?_ | refine yBox' fun _ _ => ?_ | refine yOp' ?_ | refine yIfT ?_ | refine yIfF ?_ | refine yIf ?_ ?_ | refine ySplit' ?_ ?_ | refine yIfQ ?_ ?_ | refine ySplitQ' ?_ ?_ | refine yBlkX ?_ | intro _)
    refine zGL (fun H1 hS => (hS.fold 0 0 2 rfl rfl rfl rfl (by decide)).fold 0 1 2 rfl rfl rfl rfl (by decide)) ?_
    refine zApG' (t := 45) (e := 40) rfl rfl (fun u' => .there .here) rfl D45 T40 rfl (by decide) (by rw [cellsT_len, partsR_len]) rfl (by decide) (by simp [maxBytes]; omega) rfl fun u' _ => ?_
    repeat' (first | apply zSeq | apply zReg | apply zSeqN | apply zSeqR | apply zSkip | apply zRet | apply zNil | apply zBlock | apply zExit | apply zBlkN | apply zBlkR | apply zBlkE | apply zSeqE | apply zLoopR | apply zLoopE | refine yYes' ?_ | refine yNo' ?_ | refine yNoU' ?_ | refine yLd' ?_ | refine yLdI' ?_ | refine yStS' ?_ | refine yStF' ?_ | refine ySt' ?_ | refine yBS' fun _ _ => ?_ | refine yAlloc' fun _ _ => ?_ | refine yBox' fun _ _ => ?_ | refine yOp' ?_ | refine yIfT ?_ | refine yIfF ?_ | refine yIf ?_ ?_ | refine ySplit' ?_ ?_ | refine yIfQ ?_ ?_ | refine ySplitQ' ?_ ?_ | refine yBlkX ?_ | intro _)
    refine zDrop (zLoopN (D - (d + 1)) (by omega) ⟨d + 1, u', rfl, by omega, rfl, rfl, rfl, rfl, rfl, ?_⟩)
    rw [hps]
    simp [cellsT]
  · obtain rfl : d = D := by omega
    have hdD' : ¬ (d : Int) < d := by omega
    repeat' (first | apply zSeq | apply zReg | apply zSeqN | apply zSeqR | apply zSkip | apply zRet | apply zNil | apply zBlock | apply zExit | apply zBlkN | apply zBlkR | apply zBlkE | apply zSeqE | apply zLoopR | apply zLoopE | refine yYes' ?_ | refine yNo' ?_ | refine yNoU' ?_ | refine yLd' ?_ | refine yLdI' ?_ | refine yStS' ?_ | refine yStF' ?_ | refine ySt' ?_ | refine yBS' fun _ _ => ?_ | refine yAlloc' fun _ _ => ?_ | refine yBox' fun _ _ => ?_ | refine yOp' ?_ | refine yIfT ?_ | refine yIfF ?_ | refine yIf ?_ ?_ | refine ySplit' ?_ ?_ | refine yIfQ ?_ ?_ | refine ySplitQ' ?_ ?_ | refine yBlkX ?_ | intro _)
    refine zFin (vs := [u, .int .i64 0]) (t := .tup [trG d 2 (cellsT (partsR p sz sp d)), .at (.int .i64 0)]) (by simp) (fun H1 hS => by simp [rs34]) ⟨_, Tk.tup (.cons (.pick .here) (.cons .leaf .nil))⟩ ?_ ?_
    · have := okT_TsR H.c p sz sp d
      unfold trTs at this
      rw [partsR_len] at this
      simp [okT, okTs, old, this]
    · have := hres
      unfold trTs at this
      rw [partsR_len] at this
      exact this
/-! ### lists of tensors held against each other -/
def tsGo : List TS → List TS → Bool
  | p :: l, q :: m => if sameT p q = true then tsGo l m else false
  | _, _ => true
def sameTs (l m : List TS) : Bool := if l.length = m.length then tsGo l m else false
def F83 (args : List AV) (H : Hp) : Option AV := match args with
  | [u, v] => (tensL H u).bind fun l => (tensL H v).map fun m => .bool (sameTs l m)
  | _ => none
theorem tsGo_step (l m : List TS) (i : Nat) (h1 : i < l.length) (h2 : i < m.length) : tsGo (l.drop i) (m.drop i) = if sameT (tth l i) (tth m i) = true then tsGo (l.drop (i + 1)) (m.drop (i + 1)) else false := by
  rw [List.drop_eq_getElem_cons h1, List.drop_eq_getElem_cons h2]
  simp [tsGo, tth, h1, h2, List.getD_eq_getElem?_getD]
theorem snd83 : Sound Try.prog 83 (FSem.pure F83).run := by
  refine sound_of hT (EOK_cons snd39 (EOK_nil _)) mixed A83 Try.func83 hb83 (by kernel_rfl) (by kernel_rfl) (by kernel_rfl) (by kernel_rfl) sh83 2 (by kernel_rfl) rs83 hr83 ?_
  intro args H r H' hw h
  obtain ⟨rfl, hv⟩ := pureAt h
  clear h
  unfold F83 at hv
  split at hv
  rotate_left
  · cases hv
  rename_i u v
  obtain ⟨l, hl, hv⟩ := Option.bind_eq_some_iff.1 hv
  obtain ⟨m, hm, hv⟩ := Option.map_eq_some_iff.1 hv
  cases hv
  obtain ⟨hll, hlb, hlr⟩ := tensL_at hl
  obtain ⟨hml, hmb, hmr⟩ := tensL_at hm
  refine ⟨rfl, go ?_⟩
  unfold c83
  simp only [argSl]
  by_cases hlm : l.length = m.length
  rotate_left
  · have hlm' : ¬ (l.length : Int) = m.length := by omega
    repeat' (first | apply goSeq | apply goReg | apply goSeqN | apply goSeqR | apply goSkip | apply goRet | apply goNil | apply goBlock | apply goExit | apply goBlkN | apply goBlkR | apply goBlkE | apply goSeqE | apply goLoopR | apply goLoopE | refine xOp ?_ | refine xOp0 ?_ | refine xYes ?_ | refine xNo ?_ | refine xNoU ?_ | refine xIfT ?_ | refine xIfF ?_ | refine xIf ?_ ?_ | refine xSplit ?_ ?_ | refine xIfQ ?_ ?_ | refine xSplitQ ?_ ?_ | refine xBlkX ?_ | intro _)
    refine goEnd hw (Pre.refl _) (by simp) (by simp [rs83]; exact rfl) rfl ?_
    simp [sameTs, hlm]
  rw [← hlm] at hml
  replace hlm := Hide.mk hlm
  repeat' (first | apply goSeq | apply goReg | apply goSeqN | apply goSeqR | apply goSkip | apply goRet | apply goNil | apply goBlock | apply goExit | apply goBlkN | apply goBlkR | apply goBlkE | apply goSeqE | apply goLoopR | apply goLoopE | refine xOp ?_ | refine xOp0 ?_ | refine xYes ?_ | refine xNo ?_ | refine xNoU ?_ | refine xIfT ?_ | refine xIfF ?_ | refine xIf ?_ ?_ | refine xSplit ?_ ?_ | refine xIfQ ?_ ?_ | refine xSplitQ ?_ ?_ | refine xBlkX ?_ | intro _)
  refine goLoop (fun k s1 H1 => H1 = H' ∧ ∃ i : Nat, k = l.length - i ∧ i ≤ l.length ∧ get s1 0 = u ∧ get s1 1 = v ∧ get s1 5 = .int .i64 i ∧ tsGo (l.drop i) (m.drop i) = sameTs l m) l.length ⟨rfl, 0, rfl, Nat.zero_le _, rfl, rfl, rfl, by simp [sameTs, hlm.out]⟩ ?_
  rintro k s1 H1 ⟨rfl, i, hk, hi, g1, g2, g3, hgo⟩
  simp only [cut_cons, cut_nil, g1, g2, g3]
  clear g1 g2 g3
  have hwi : w ((i : Int) + 1) = ((i + 1 : Nat) : Int) := w_id (by omega)
  by_cases hin : i < l.length
  · have hin' : (i : Int) < l.length := by omega
    obtain ⟨q1, x1, y1, a1, a2, a3, _⟩ := hlr i hin
    obtain ⟨q2, x2, y2, b1, b2, b3, _⟩ := hmr i (by have := hlm.out; omega)
    have e39 : F39 [.agg [x1, y1], .agg [x2, y2]] H1 = some (.bool (sameT (tth l i) (tth m i))) := by simp [F39, a3, b3]
    have hst := tsGo_step l m i hin (by have := hlm.out; omega)
    rw [hst] at hgo
    replace hgo := Hide.mk hgo
    clear a3 b3 hst
    rcases hs : sameT (tth l i) (tth m i) with _ | _
    · rw [hs] at e39 hgo
      repeat' (first | apply goSeq | apply goReg | apply goSeqN | apply goSeqR | apply goSkip | apply goRet | apply goNil | apply goBlock | apply goExit | apply goBlkN | apply goBlkR | apply goBlkE | apply goSeqE | apply goLoopR | apply goLoopE | refine xOp ?_ | refine xOp0 ?_ | refine xYes ?_ | refine xNo ?_ | refine xNoU ?_ | refine xIfT ?_ | refine xIfF ?_ | refine xIf ?_ ?_ | refine xSplit ?_ ?_ | refine xIfQ ?_ ?_ | refine xSplitQ ?_ ?_ | refine xBlkX ?_ | intro _)
      refine goEnd hw (Pre.refl _) (by simp) (by simp [rs83]; exact rfl) rfl ?_
      have := hgo.out
      simp at this
      simp [← this]
    · rw [hs] at e39 hgo
      repeat' (first | apply goSeq | apply goReg | apply goSeqN | apply goSeqR | apply goSkip | apply goRet | apply goNil | apply goBlock | apply goExit | apply goBlkN | apply goBlkR | apply goBlkE | apply goSeqE | apply goLoopR | apply goLoopE | refine xOp ?_ | refine xOp0 ?_ | refine xYes ?_ | refine xNo ?_ | refine xNoU ?_ | refine xIfT ?_ | refine xIfF ?_ | refine xIf ?_ ?_ | refine xSplit ?_ ?_ | refine xIfQ ?_ ?_ | refine xSplitQ ?_ ?_ | refine xBlkX ?_ | intro _)
      refine goLoopN (l.length - (i + 1)) (by omega) ⟨rfl, i + 1, rfl, by omega, rfl, rfl, rfl, ?_⟩
      have := hgo.out
      simpa using this
  · have hin' : ¬ (i : Int) < l.length := by omega
    rw [List.drop_of_length_le (by omega)] at hgo
    replace hgo := Hide.mk hgo
    repeat' (first | apply goSeq | apply goReg | apply goSeqN | apply goSeqR | apply goSkip | apply goRet | apply goNil | apply goBlock | apply goExit | apply goBlkN | apply goBlkR | apply goBlkE | apply goSeqE | apply goLoopR | apply goLoopE | refine xOp ?_ | refine xOp0 ?_ | refine xYes ?_ | refine xNo ?_ | refine xNoU ?_ | refine xIfT ?_ | refine xIfF ?_ | refine xIf ?_ ?_ | refine xSplit ?_ ?_ | refine xIfQ ?_ ?_ | refine xSplitQ ?_ ?_ | refine xBlkX ?_ | intro _)
    refine goEnd hw (Pre.refl _) (by simp) (by simp [rs83]; exact rfl) rfl ?_
    simp [← hgo.out, tsGo]
/- Walks: 'same' of the split: program and document part alike. -/
theorem SL.tsL {B : Bs} {L : Lo} {H : Hp} (h : SL B L H) (i : Nat) {u : AV} {P : List (Tr × Tr)} {M : List TS} (hi : L[i]? = some (u, trTs P)) (hok : okT 0 (trTs P) = true) (hl : P.length = M.length) (hn : M.length ≤ 2932031007402)
    (hj : ∀ j : Nat, j < M.length → ∃ a b, P[j]? = some (a, b) ∧ isL a (tth M j).1 ∧ isL b (tth M j).2 ∧ (tth M j).1.length ≤ 1152921504606846976 ∧ (tth M j).2.length ≤ 1152921504606846976) : tensL H u = some M := by
  obtain ⟨bs, h1, h2, h3⟩ := h.rx
  obtain ⟨v', b1, b', b2, g1, rfl, g3, _, g5⟩ := RXs.pick _ h1 i _ (getE hi)
  rw [getE hi] at g1
  cases g1
  exact rep_tensL (RX.rep (c := 0) _ hok (by simp) g3) hl hn hj
theorem tsGo_refl : ∀ l : List TS, tsGo l l = true := by
  intro l
  induction l with
  | nil => rfl
  | cons p l ih => simp [tsGo, sameT_refl, ih]
theorem sameTs_refl (l : List TS) : sameTs l l = true := by simp [sameTs, tsGo_refl]
theorem parts_all {p : TS} {sz sp : List Int} (hm : mayL p sz sp = 0) {P : List (Tr × Tr)} (hP : ∀ j : Nat, j < (devs sz).toNat → ∃ a b, P[j]? = some (a, b) ∧ isL a (sizeL p.1 sz sp j) ∧ isL b (partD p sz sp j)) :
    ∀ j : Nat, j < (allL p sz sp).length → ∃ a b, P[j]? = some (a, b) ∧ isL a (tth (allL p sz sp) j).1 ∧ isL b (tth (allL p sz sp) j).2 ∧ (tth (allL p sz sp) j).1.length ≤ 1152921504606846976 ∧ (tth (allL p sz sp) j).2.length ≤ 1152921504606846976 := by
  intro j hj
  rw [allL_len] at hj
  obtain ⟨a, b, h1, h2, h3⟩ := hP j hj
  have hd := devs_le sz
  have hok := part_sl hm (Int.natCast_nonneg j) (by omega)
  have := hok.zl
  have h4 := (shapeOK_rng hok.shape.1).1
  have h5 := partD_len p sz sp j
  rw [allL_at p sz sp hj]
  exact ⟨a, b, h1, h2, h3, by simp only; omega, by simp only; omega⟩
theorem partsN_at (p : TS) (sz sp : List Int) (n j : Nat) (h : j < n) : ∃ a b, (partsN p sz sp n)[j]? = some (a, b) ∧ isL a (sizeL p.1 sz sp j) ∧ isL b (partD p sz sp j) :=
  ⟨_, _, by simp [partsN, h], .inl rfl, .inr (.inl rfl)⟩
theorem partsR_at (p : TS) (sz sp : List Int) (n j : Nat) (h : j < n) : ∃ a b, (partsR p sz sp n)[j]? = some (a, b) ∧ isL a (sizeL p.1 sz sp j) ∧ isL b (partD p sz sp j) :=
  ⟨_, _, by simp [partsR, h], .inr (.inr rfl), .inl rfl⟩
def F33 (args : List AV) (H : Hp) : Option AV := match args with
  | [t, a, b, .int .i64 _] => (tens H t).bind fun p => (ints H a).bind fun sz => (ints H b).map fun sp => .bool true
  | _ => none
set_option maxHeartbeats 4000000 in
theorem snd33 : Sound Try.prog 33 (FSem.pure F33).run := by
  refine sound_of hT (EOK_cons snd34 (EOK_cons snd37 (EOK_cons snd39 (EOK_cons snd81 (EOK_cons snd82 (EOK_cons snd83 (EOK_nil _))))))) mixed A33 Try.func33 hb33 (by kernel_rfl) (by kernel_rfl) (by kernel_rfl) (by kernel_rfl) sh33 4 (by kernel_rfl) rs33 hr33 ?_
  intro args H r H' hw h
  obtain ⟨rfl, hv⟩ := pureAt h
  clear h
  unfold F33 at hv
  split at hv
  rotate_left
  · cases hv
  rename_i t a b dd
  obtain ⟨p, ht, hv⟩ := Option.bind_eq_some_iff.1 hv
  obtain ⟨sz, hsz, hv⟩ := Option.bind_eq_some_iff.1 hv
  obtain ⟨sp, hsp, hv⟩ := Option.map_eq_some_iff.1 hv
  cases hv
  obtain ⟨x, y, rfl, hx, hy⟩ := tens_some ht
  have ox := ints_one' hx
  have oy := ints_one' hy
  have za := Fz.of hsz
  have zb := Fz.of hsp
  have e81 : ∀ Hx, Fm ⟨H', []⟩ Hx → F81 [.agg [x, y], a, b, .int .i64 dd] Hx = some (mk (partT p sz sp dd) Hx) := fun Hx hF => by
    show (tens Hx _).bind _ = _
    rw [tens_ext hF.pre' ht, Option.bind_some, za.out _ hF, Option.bind_some, zb.out _ hF, Option.map_some]
  have e82 : ∀ Hx, Fm ⟨H', []⟩ Hx → F82 [.agg [x, y], a, b, .int .i64 dd] Hx = some (mk (partR p sz sp dd) Hx) := fun Hx hF => by
    show (tens Hx _).bind _ = _
    rw [tens_ext hF.pre' ht, Option.bind_some, za.out _ hF, Option.bind_some, zb.out _ hF, Option.map_some]
  have e37 : ∀ Hx, Fm ⟨H', []⟩ Hx → F37 [.agg [x, y], a, b] Hx = some (mk (allT p sz sp) Hx) := fun Hx hF => by
    show (tens Hx _).bind _ = _
    rw [tens_ext hF.pre' ht, Option.bind_some, za.out _ hF, Option.bind_some, zb.out _ hF, Option.map_some]
  have e34 : ∀ Hx, Fm ⟨H', []⟩ Hx → F34 [.agg [x, y], a, b] Hx = some (mk (allR p sz sp) Hx) := fun Hx hF => by
    show (tens Hx _).bind _ = _
    rw [tens_ext hF.pre' ht, Option.bind_some, za.out _ hF, Option.bind_some, zb.out _ hF, Option.map_some]
  refine ⟨rfl, go (zStart (SL.nil hw []) ?_)⟩
  unfold c33
  simp only [argSl]
  by_cases hm : mayL p sz sp = 0
  · have r3 : allT p sz sp = .tup [trTs (partsN p sz sp (devs sz).toNat), .at (.int .i64 0)] := by simp [allT, hm]
    have r4 : allR p sz sp = .tup [trTs (partsR p sz sp (devs sz).toNat), .at (.int .i64 0)] := by simp [allR, hm]
    rw [r3] at e37
    rw [r4] at e34
    have hdv := devs_le sz
    by_cases hd : dd < 0 ∨ devs sz ≤ dd
    · have r1 : partT p sz sp dd = zeroT 23 := by simp [partT, hm, hd]
      have r2 : partR p sz sp dd = zeroT 23 := by simp [partR, hm, hd]
      rw [r1] at e81
      rw [r2] at e82
      have hs0 : sameT ([], []) ([], []) = true := sameT_refl _
      repeat' (first | apply zSeq | apply zReg | apply zSeqN | apply zSeqR | apply zSkip | apply zRet | apply zNil | apply zBlock | apply zExit | apply zBlkN | apply zBlkR | apply zBlkE | apply zSeqE | apply zLoopR | apply zLoopE | refine yYes' ?_ | refine yNo' ?_ | refine yNoU' ?_ | refine yLd' ?_ | refine yLdI' ?_ | refine yStS' ?_ | refine yStF' ?_ | refine ySt' ?_ | refine yBS' fun _ _ => ?_ | refine yAlloc' fun _ _ => ?_ | refine yBox' fun _ _ => ?_ | refine yOp' ?_ | refine yIfT ?_ | refine yIfF ?_ | refine yIf ?_ ?_ | refine ySplit' ?_ ?_ | refine yIfQ ?_ ?_ | refine ySplitQ' ?_ ?_ | refine yBlkX ?_ | intro _)
      refine zCall' (F := F81) (args := [.agg [x, y], a, b, .int .i64 dd]) rfl rfl rfl (fun H1 hS hF => e81 H1 hF) fun v => ?_
      refine zTup2' fun tv ev h => ?_
      subst h
      refine zAgg2' fun shv dav h => ?_
      subst h
      refine zAt' (.there (.there .here)) fun h => ?_
      subst h
      refine zAt' .here fun h => ?_
      subst h
      refine zAt' .here fun h => ?_
      subst h
      repeat' (first | apply zSeq | apply zReg | apply zSeqN | apply zSeqR | apply zSkip | apply zRet | apply zNil | apply zBlock | apply zExit | apply zBlkN | apply zBlkR | apply zBlkE | apply zSeqE | apply zLoopR | apply zLoopE | refine yYes' ?_ | refine yNo' ?_ | refine yNoU' ?_ | refine yLd' ?_ | refine yLdI' ?_ | refine yStS' ?_ | refine yStF' ?_ | refine ySt' ?_ | refine yBS' fun _ _ => ?_ | refine yAlloc' fun _ _ => ?_ | refine yBox' fun _ _ => ?_ | refine yOp' ?_ | refine yIfT ?_ | refine yIfF ?_ | refine yIf ?_ ?_ | refine ySplit' ?_ ?_ | refine yIfQ ?_ ?_ | refine ySplitQ' ?_ ?_ | refine yBlkX ?_ | intro _)
      refine zCall' (F := F82) (args := [.agg [x, y], a, b, .int .i64 dd]) rfl rfl rfl (fun H1 hS hF => e82 H1 hF) fun v => ?_
      refine zTup2' fun tv ev h => ?_
      subst h
      refine zAgg2' fun shv dav h => ?_
      subst h
      refine zAt' (.there (.there .here)) fun h => ?_
      subst h
      refine zAt' .here fun h => ?_
      subst h
      refine zAt' .here fun h => ?_
      subst h
      repeat' (first | apply zSeq | apply zReg | apply zSeqN | apply zSeqR | apply zSkip | apply zRet | apply zNil | apply zBlock | apply zExit | apply zBlkN | apply zBlkR | apply zBlkE | apply zSeqE | apply zLoopR | apply zLoopE | refine yYes' ?_ | refine yNo' ?_ | refine yNoU' ?_ | refine yLd' ?_ | refine yLdI' ?_ | refine yStS' ?_ | refine yStF' ?_ | refine ySt' ?_ | refine yBS' fun _ _ => ?_ | refine yAlloc' fun _ _ => ?_ | refine yBox' fun _ _ => ?_ | refine yOp' ?_ | refine yIfT ?_ | refine yIfF ?_ | refine yIf ?_ ?_ | refine ySplit' ?_ ?_ | refine yIfQ ?_ ?_ | refine ySplitQ' ?_ ?_ | refine yBlkX ?_ | intro _)
      refine zCall' (F := F37) (args := [.agg [x, y], a, b]) rfl rfl rfl (fun H1 hS hF => e37 H1 hF) fun v => ?_
      refine zTup2' fun u1 ev h => ?_
      subst h
      refine zAt' (.there .here) fun h => ?_
      subst h
      repeat' (first | apply zSeq | apply zReg | apply zSeqN | apply zSeqR | apply zSkip | apply zRet | apply zNil | apply zBlock | apply zExit | apply zBlkN | apply zBlkR | apply zBlkE | apply zSeqE | apply zLoopR | apply zLoopE | refine yYes' ?_ | refine yNo' ?_ | refine yNoU' ?_ | refine yLd' ?_ | refine yLdI' ?_ | refine yStS' ?_ | refine yStF' ?_ | refine ySt' ?_ | refine yBS' fun _ _ => ?_ | refine yAlloc' fun _ _ => ?_ | refine yBox' fun _ _ => ?_ | refine yOp' ?_ | refine yIfT ?_ | refine yIfF ?_ | refine yIf ?_ ?_ | refine ySplit' ?_ ?_ | refine yIfQ ?_ ?_ | refine ySplitQ' ?_ ?_ | refine yBlkX ?_ | intro _)
      refine zCall' (F := F34) (args := [.agg [x, y], a, b]) rfl rfl rfl (fun H1 hS hF => e34 H1 hF) fun v => ?_
      refine zTup2' fun u2 ev h => ?_
      subst h
      refine zAt' (.there .here) fun h => ?_
      subst h
      repeat' (first | apply zSeq | apply zReg | apply zSeqN | apply zSeqR | apply zSkip | apply zRet | apply zNil | apply zBlock | apply zExit | apply zBlkN | apply zBlkR | apply zBlkE | apply zSeqE | apply zLoopR | apply zLoopE | refine yYes' ?_ | refine yNo' ?_ | refine yNoU' ?_ | refine yLd' ?_ | refine yLdI' ?_ | refine yStS' ?_ | refine yStF' ?_ | refine ySt' ?_ | refine yBS' fun _ _ => ?_ | refine yAlloc' fun _ _ => ?_ | refine yBox' fun _ _ => ?_ | refine yOp' ?_ | refine yIfT ?_ | refine yIfF ?_ | refine yIf ?_ ?_ | refine ySplit' ?_ ?_ | refine yIfQ ?_ ?_ | refine ySplitQ' ?_ ?_ | refine yBlkX ?_ | intro _)
      refine zPure' (F := F83) (args := [u1, u2]) (v := .bool true) rfl rfl rfl (fun H1 hS hF => ?_) ?_
      · have g1 := hS.tsL 1 rfl (okT_Ts 0 p sz sp _) (by rw [partsN_len, allL_len]) (by rw [allL_len]; omega) (parts_all hm (partsN_at p sz sp _))
        have g2 := hS.tsL 0 rfl (okT_TsR 0 p sz sp _) (by rw [partsR_len, allL_len]) (by rw [allL_len]; omega) (parts_all hm (partsR_at p sz sp _))
        show (tensL H1 _).bind _ = _
        rw [g1, Option.bind_some, g2, Option.map_some, sameTs_refl]
      repeat' (first | apply zSeq | apply zReg | apply zSeqN | apply zSeqR | apply zSkip | apply zRet | apply zNil | apply zBlock | apply zExit | apply zBlkN | apply zBlkR | apply zBlkE | apply zSeqE | apply zLoopR | apply zLoopE | refine yYes' ?_ | refine yNo' ?_ | refine yNoU' ?_ | refine yLd' ?_ | refine yLdI' ?_ | refine yStS' ?_ | refine yStF' ?_ | refine ySt' ?_ | refine yBS' fun _ _ => ?_ | refine yAlloc' fun _ _ => ?_ | refine yBox' fun _ _ => ?_ | refine yOp' ?_ | refine yIfT ?_ | refine yIfF ?_ | refine yIf ?_ ?_ | refine ySplit' ?_ ?_ | refine yIfQ ?_ ?_ | refine ySplitQ' ?_ ?_ | refine yBlkX ?_ | intro _)
      exact zEndP (vs := [.bool true]) (by simp) (fun H1 hS => by simp [rs33]) rfl
    · have r1 := partT_ok (p := p) (sz := sz) (sp := sp) (d := dd) hm (by omega) (by omega)
      have r2 : partR p sz sp dd = okTn (trC (sizeL p.1 sz sp dd)) (trS (partD p sz sp dd)) := by simp [partR, hm, hd]
      have hok := part_sl hm (by omega) (by omega : dd < devs sz)
      have hl2 := hok.zl
      have hp4 := (shapeOK_rng hok.shape.1).1
      have hdl := partD_len p sz sp dd
      rw [r1] at e81
      rw [r2] at e82
      clear r1 r2 hok
      generalize hSZ : sizeL p.1 sz sp dd = SZ at *
      generalize hPD : partD p sz sp dd = PD at *
      repeat' (first | apply zSeq | apply zReg | apply zSeqN | apply zSeqR | apply zSkip | apply zRet | apply zNil | apply zBlock | apply zExit | apply zBlkN | apply zBlkR | apply zBlkE | apply zSeqE | apply zLoopR | apply zLoopE | refine yYes' ?_ | refine yNo' ?_ | refine yNoU' ?_ | refine yLd' ?_ | refine yLdI' ?_ | refine yStS' ?_ | refine yStF' ?_ | refine ySt' ?_ | refine yBS' fun _ _ => ?_ | refine yAlloc' fun _ _ => ?_ | refine yBox' fun _ _ => ?_ | refine yOp' ?_ | refine yIfT ?_ | refine yIfF ?_ | refine yIf ?_ ?_ | refine ySplit' ?_ ?_ | refine yIfQ ?_ ?_ | refine ySplitQ' ?_ ?_ | refine yBlkX ?_ | intro _)
      refine zCall' (F := F81) (args := [.agg [x, y], a, b, .int .i64 dd]) rfl rfl rfl (fun H1 hS hF => e81 H1 hF) fun v => ?_
      refine zTup2' fun tv ev h => ?_
      subst h
      refine zAgg2' fun s1 d1 h => ?_
      subst h
      refine zAt' (.there (.there .here)) fun h => ?_
      subst h
      refine zNum' .here (numsT_S (by omega)) fun o1 _ _ => ?_
      refine zNum' (.there .here) (numsT_F (by omega)) fun o2 _ _ => ?_
      repeat' (first | apply zSeq | apply zReg | apply zSeqN | apply zSeqR | apply zSkip | apply zRet | apply zNil | apply zBlock | apply zExit | apply zBlkN | apply zBlkR | apply zBlkE | apply zSeqE | apply zLoopR | apply zLoopE | refine yYes' ?_ | refine yNo' ?_ | refine yNoU' ?_ | refine yLd' ?_ | refine yLdI' ?_ | refine yStS' ?_ | refine yStF' ?_ | refine ySt' ?_ | refine yBS' fun _ _ => ?_ | refine yAlloc' fun _ _ => ?_ | refine yBox' fun _ _ => ?_ | refine yOp' ?_ | refine yIfT ?_ | refine yIfF ?_ | refine yIf ?_ ?_ | refine ySplit' ?_ ?_ | refine yIfQ ?_ ?_ | refine ySplitQ' ?_ ?_ | refine yBlkX ?_ | intro _)
      refine zCall' (F := F82) (args := [.agg [x, y], a, b, .int .i64 dd]) rfl rfl rfl (fun H1 hS hF => e82 H1 hF) fun v => ?_
      refine zTup2' fun tv ev h => ?_
      subst h
      refine zAgg2' fun s2 d2 h => ?_
      subst h
      refine zAt' (.there (.there .here)) fun h => ?_
      subst h
      refine zNum' .here (numsT_C (by omega)) fun o3 _ _ => ?_
      refine zNum' (.there .here) (numsT_S (by omega)) fun o4 _ _ => ?_
      repeat' (first | apply zSeq | apply zReg | apply zSeqN | apply zSeqR | apply zSkip | apply zRet | apply zNil | apply zBlock | apply zExit | apply zBlkN | apply zBlkR | apply zBlkE | apply zSeqE | apply zLoopR | apply zLoopE | refine yYes' ?_ | refine yNo' ?_ | refine yNoU' ?_ | refine yLd' ?_ | refine yLdI' ?_ | refine yStS' ?_ | refine yStF' ?_ | refine ySt' ?_ | refine yBS' fun _ _ => ?_ | refine yAlloc' fun _ _ => ?_ | refine yBox' fun _ _ => ?_ | refine yOp' ?_ | refine yIfT ?_ | refine yIfF ?_ | refine yIf ?_ ?_ | refine ySplit' ?_ ?_ | refine yIfQ ?_ ?_ | refine ySplitQ' ?_ ?_ | refine yBlkX ?_ | intro _)
      refine zCall' (F := F37) (args := [.agg [x, y], a, b]) rfl rfl rfl (fun H1 hS hF => e37 H1 hF) fun v => ?_
      refine zTup2' fun u1 ev h => ?_
      subst h
      refine zAt' (.there .here) fun h => ?_
      subst h
      repeat' (first | apply zSeq | apply zReg | apply zSeqN | apply zSeqR | apply zSkip | apply zRet | apply zNil | apply zBlock | apply zExit | apply zBlkN | apply zBlkR | apply zBlkE | apply zSeqE | apply zLoopR | apply zLoopE | refine yYes' ?_ | refine yNo' ?_ | refine yNoU' ?_ | refine yLd' ?_ | refine yLdI' ?_ | refine yStS' ?_ | refine yStF' ?_ | refine ySt' ?_ | refine yBS' fun _ _ => ?_ | refine yAlloc' fun _ _ => ?_ | refine yBox' fun _ _ => ?_ | refine yOp' ?_ | refine yIfT ?_ | refine yIfF ?_ | refine yIf ?_ ?_ | refine ySplit' ?_ ?_ | refine yIfQ ?_ ?_ | refine ySplitQ' ?_ ?_ | refine yBlkX ?_ | intro _)
      refine zCall' (F := F34) (args := [.agg [x, y], a, b]) rfl rfl rfl (fun H1 hS hF => e34 H1 hF) fun v => ?_
      refine zTup2' fun u2 ev h => ?_
      subst h
      refine zAt' (.there .here) fun h => ?_
      subst h
      repeat' (first | apply zSeq | apply zReg | apply zSeqN | apply zSeqR | apply zSkip | apply zRet | apply zNil | apply zBlock | apply zExit | apply zBlkN | apply zBlkR | apply zBlkE | apply zSeqE | apply zLoopR | apply zLoopE | refine yYes' ?_ | refine yNo' ?_ | refine yNoU' ?_ | refine yLd' ?_ | refine yLdI' ?_ | refine yStS' ?_ | refine yStF' ?_ | refine ySt' ?_ | refine yBS' fun _ _ => ?_ | refine yAlloc' fun _ _ => ?_ | refine yBox' fun _ _ => ?_ | refine yOp' ?_ | refine yIfT ?_ | refine yIfF ?_ | refine yIf ?_ ?_ | refine ySplit' ?_ ?_ | refine yIfQ ?_ ?_ | refine ySplitQ' ?_ ?_ | refine yBlkX ?_ | intro _)
      refine zPure' (F := F39) (args := [.agg [s1, d1], .agg [s2, d2]]) (v := .bool true) rfl rfl rfl (fun H1 hS hF => ?_) ?_
      · have g1 : ints H1 s1 = some SZ := Num.out (by first | exact Num.fz (by assumption) | exact Num.fz (Hide.out (by assumption)) | (apply Num.here (t := trS _); (· ((repeat (first | exact Fu.here | apply Fu.there)); done)); (· exact numsT_S (by first | omega | (simp; omega)))) | (apply Num.here (t := trF _); (· ((repeat (first | exact Fu.here | apply Fu.there)); done)); (· exact numsT_F (by first | omega | (simp; omega)))) | (apply Num.here (t := trC _); (· ((repeat (first | exact Fu.here | apply Fu.there)); done)); (· exact numsT_C (by first | omega | (simp; omega)))) | (apply Num.here (t := trB true _); (· ((repeat (first | exact Fu.here | apply Fu.there)); done)); (· exact numsT_F (by first | omega | (simp; omega)))) | (apply Num.here (t := trB false _); (· ((repeat (first | exact Fu.here | apply Fu.there)); done)); (· exact numsT_S (by first | omega | (simp; omega))))) H1 hS
        have g2 : ints H1 d1 = some PD := Num.out (by first | exact Num.fz (by assumption) | exact Num.fz (Hide.out (by assumption)) | (apply Num.here (t := trS _); (· ((repeat (first | exact Fu.here | apply Fu.there)); done)); (· exact numsT_S (by first | omega | (simp; omega)))) | (apply Num.here (t := trF _); (· ((repeat (first | exact Fu.here | apply Fu.there)); done)); (· exact numsT_F (by first | omega | (simp; omega)))) | (apply Num.here (t := trC _); (· ((repeat (first | exact Fu.here | apply Fu.there)); done)); (· exact numsT_C (by first | omega | (simp; omega)))) | (apply Num.here (t := trB true _); (· ((repeat (first | exact Fu.here | apply Fu.there)); done)); (· exact numsT_F (by first | omega | (simp; omega)))) | (apply Num.here (t := trB false _); (· ((repeat (first | exact Fu.here | apply Fu.there)); done)); (· exact numsT_S (by first | omega | (simp; omega))))) H1 hS
        have g3 : ints H1 s2 = some SZ := Num.out (by first | exact Num.fz (by assumption) | exact Num.fz (Hide.out (by assumption)) | (apply Num.here (t := trS _); (· ((repeat (first | exact Fu.here | apply Fu.there)); done)); (· exact numsT_S (by first | omega | (simp; omega)))) | (apply Num.here (t := trF _); (· ((repeat (first | exact Fu.here | apply Fu.there)); done)); (· exact numsT_F (by first | omega | (simp; omega)))) | (apply Num.here (t := trC _); (· ((repeat (first | exact Fu.here | apply Fu.there)); done)); (· exact numsT_C (by first | omega | (simp; omega)))) | (apply Num.here (t := trB true _); (· ((repeat (first | exact Fu.here | apply Fu.there)); done)); (· exact numsT_F (by first | omega | (simp; omega)))) | (apply Num.here (t := trB false _); (· ((repeat (first | exact Fu.here | apply Fu.there)); done)); (· exact numsT_S (by first | omega | (simp; omega))))) H1 hS
        have g4 : ints H1 d2 = some PD := Num.out (by first | exact Num.fz (by assumption) | exact Num.fz (Hide.out (by assumption)) | (apply Num.here (t := trS _); (· ((repeat (first | exact Fu.here | apply Fu.there)); done)); (· exact numsT_S (by first | omega | (simp; omega)))) | (apply Num.here (t := trF _); (· ((repeat (first | exact Fu.here | apply Fu.there)); done)); (· exact numsT_F (by first | omega | (simp; omega)))) | (apply Num.here (t := trC _); (· ((repeat (first | exact Fu.here | apply Fu.there)); done)); (· exact numsT_C (by first | omega | (simp; omega)))) | (apply Num.here (t := trB true _); (· ((repeat (first | exact Fu.here | apply Fu.there)); done)); (· exact numsT_F (by first | omega | (simp; omega)))) | (apply Num.here (t := trB false _); (· ((repeat (first | exact Fu.here | apply Fu.there)); done)); (· exact numsT_S (by first | omega | (simp; omega))))) H1 hS
        show (tens H1 _).bind _ = _
        rw [tens_of g1 g2, Option.bind_some, tens_of g3 g4, Option.map_some, sameT_refl]
      repeat' (first | apply zSeq | apply zReg | apply zSeqN | apply zSeqR | apply zSkip | apply zRet | apply zNil | apply zBlock | apply zExit | apply zBlkN | apply zBlkR | apply zBlkE | apply zSeqE | apply zLoopR | apply zLoopE | refine yYes' ?_ | refine yNo' ?_ | refine yNoU' ?_ | refine yLd' ?_ | refine yLdI' ?_ | refine yStS' ?_ | refine yStF' ?_ | refine ySt' ?_ | refine yBS' fun _ _ => ?_ | refine yAlloc' fun _ _ => ?_ | refine yBox' fun _ _ => ?_ | refine yOp' ?_ | refine yIfT ?_ | refine yIfF ?_ | refine yIf ?_ ?_ | refine ySplit' ?_ ?_ | refine yIfQ ?_ ?_ | refine ySplitQ' ?_ ?_ | refine yBlkX ?_ | intro _)
      refine zPure' (F := F83) (args := [u1, u2]) (v := .bool true) rfl rfl rfl (fun H1 hS hF => ?_) ?_
      · have g1 := hS.tsL 1 rfl (okT_Ts 0 p sz sp _) (by rw [partsN_len, allL_len]) (by rw [allL_len]; omega) (parts_all hm (partsN_at p sz sp _))
        have g2 := hS.tsL 0 rfl (okT_TsR 0 p sz sp _) (by rw [partsR_len, allL_len]) (by rw [allL_len]; omega) (parts_all hm (partsR_at p sz sp _))
        show (tensL H1 _).bind _ = _
        rw [g1, Option.bind_some, g2, Option.map_some, sameTs_refl]
      repeat' (first | apply zSeq | apply zReg | apply zSeqN | apply zSeqR | apply zSkip | apply zRet | apply zNil | apply zBlock | apply zExit | apply zBlkN | apply zBlkR | apply zBlkE | apply zSeqE | apply zLoopR | apply zLoopE | refine yYes' ?_ | refine yNo' ?_ | refine yNoU' ?_ | refine yLd' ?_ | refine yLdI' ?_ | refine yStS' ?_ | refine yStF' ?_ | refine ySt' ?_ | refine yBS' fun _ _ => ?_ | refine yAlloc' fun _ _ => ?_ | refine yBox' fun _ _ => ?_ | refine yOp' ?_ | refine yIfT ?_ | refine yIfF ?_ | refine yIf ?_ ?_ | refine ySplit' ?_ ?_ | refine yIfQ ?_ ?_ | refine ySplitQ' ?_ ?_ | refine yBlkX ?_ | intro _)
      exact zEndP (vs := [.bool true]) (by simp) (fun H1 hS => by simp [rs33]) rfl
  have r1 : partT p sz sp dd = zeroT (mayL p sz sp) := by simp [partT, hm]
  have r2 : partR p sz sp dd = zeroT (mayL p sz sp) := by simp [partR, hm]
  have r3 : allT p sz sp = .tup [.at .nilS, .at (.int .i64 (mayL p sz sp))] := by simp [allT, hm]
  have r4 : allR p sz sp = .tup [.at .nilS, .at (.int .i64 (mayL p sz sp))] := by simp [allR, hm]
  rw [r1] at e81
  rw [r2] at e82
  rw [r3] at e37
  rw [r4] at e34
  generalize mayL p sz sp = e at *
  have hs0 : sameT ([], []) ([], []) = true := sameT_refl _
  repeat' (first | apply zSeq | apply zReg | apply zSeqN | apply zSeqR | apply zSkip | apply zRet | apply zNil | apply zBlock | apply zExit | apply zBlkN | apply zBlkR | apply zBlkE | apply zSeqE | apply zLoopR | apply zLoopE | refine yYes' ?_ | refine yNo' ?_ | refine yNoU' ?_ | refine yLd' ?_ | refine yLdI' ?_ | refine yStS' ?_ | refine yStF' ?_ | refine ySt' ?_ | refine yBS' fun _ _ => ?_ | refine yAlloc' fun _ _ => ?_ | refine yBox' fun _ _ => ?_ | refine yOp' ?_ | refine yIfT ?_ | refine yIfF ?_ | refine yIf ?_ ?_ | refine ySplit' ?_ ?_ | refine yIfQ ?_ ?_ | refine ySplitQ' ?_ ?_ | refine yBlkX ?_ | intro _)
  refine zCall' (F := F81) (args := [.agg [x, y], a, b, .int .i64 dd]) rfl rfl rfl (fun H1 hS hF => e81 H1 hF) fun v => ?_
  refine zTup2' fun tv ev h => ?_
  subst h
  refine zAgg2' fun shv dav h => ?_
  subst h
  refine zAt' (.there (.there .here)) fun h => ?_
  subst h
  refine zAt' .here fun h => ?_
  subst h
  refine zAt' .here fun h => ?_
  subst h
  repeat' (first | apply zSeq | apply zReg | apply zSeqN | apply zSeqR | apply zSkip | apply zRet | apply zNil | apply zBlock | apply zExit | apply zBlkN | apply zBlkR | apply zBlkE | apply zSeqE | apply zLoopR | apply zLoopE | refine yYes' ?_ | refine yNo' ?_ | refine yNoU' ?_ | refine yLd' ?_ | refine yLdI' ?_ | refine yStS' ?_ | refine yStF' ?_ | refine ySt' ?_ | refine yBS' fun _ _ => ?_ | refine yAlloc' fun _ _ => ?_ | refine yBox' fun _ _ => ?_ | refine yOp' ?_ | refine yIfT ?_ | refine yIfF ?_ | refine yIf ?_ ?_ | refine ySplit' ?_ ?_ | refine yIfQ ?_ ?_ | refine ySplitQ' ?_ ?_ | refine yBlkX ?_ | intro _)
  refine zCall' (F := F82) (args := [.agg [x, y], a, b, .int .i64 dd]) rfl rfl rfl (fun H1 hS hF => e82 H1 hF) fun v => ?_
  refine zTup2' fun tv ev h => ?_
  subst h
  refine zAgg2' fun shv dav h => ?_
  subst h
  refine zAt' (.there (.there .here)) fun h => ?_
  subst h
  refine zAt' .here fun h => ?_
  subst h
  refine zAt' .here fun h => ?_
  subst h
  repeat' (first | apply zSeq | apply zReg | apply zSeqN | apply zSeqR | apply zSkip | apply zRet | apply zNil | apply zBlock | apply zExit | apply zBlkN | apply zBlkR | apply zBlkE | apply zSeqE | apply zLoopR | apply zLoopE | refine yYes' ?_ | refine yNo' ?_ | refine yNoU' ?_ | refine yLd' ?_ | refine yLdI' ?_ | refine yStS' ?_ | refine yStF' ?_ | refine ySt' ?_ | refine yBS' fun _ _ => ?_ | refine yAlloc' fun _ _ => ?_ | refine yBox' fun _ _ => ?_ | refine yOp' ?_ | refine yIfT ?_ | refine yIfF ?_ | refine yIf ?_ ?_ | refine ySplit' ?_ ?_ | refine yIfQ ?_ ?_ | refine ySplitQ' ?_ ?_ | refine yBlkX ?_ | intro _)
  refine zCall' (F := F37) (args := [.agg [x, y], a, b]) rfl rfl rfl (fun H1 hS hF => e37 H1 hF) fun v => ?_
  refine zTup2' fun tv ev h => ?_
  subst h
  refine zAt' .here fun h => ?_
  subst h
  refine zAt' .here fun h => ?_
  subst h
  repeat' (first | apply zSeq | apply zReg | apply zSeqN | apply zSeqR | apply zSkip | apply zRet | apply zNil | apply zBlock | apply zExit | apply zBlkN | apply zBlkR | apply zBlkE | apply zSeqE | apply zLoopR | apply zLoopE | refine yYes' ?_ | refine yNo' ?_ | refine yNoU' ?_ | refine yLd' ?_ | refine yLdI' ?_ | refine yStS' ?_ | refine yStF' ?_ | refine ySt' ?_ | refine yBS' fun _ _ => ?_ | refine yAlloc' fun _ _ => ?_ | refine yBox' fun _ _ => ?_ | refine yOp' ?_ | refine yIfT ?_ | refine yIfF ?_ | refine yIf ?_ ?_ | refine ySplit' ?_ ?_ | refine yIfQ ?_ ?_ | refine ySplitQ' ?_ ?_ | refine yBlkX ?_ | intro _)
  refine zCall' (F := F34) (args := [.agg [x, y], a, b]) rfl rfl rfl (fun H1 hS hF => e34 H1 hF) fun v => ?_
  refine zTup2' fun tv ev h => ?_
  subst h
  refine zAt' .here fun h => ?_
  subst h
  refine zAt' .here fun h => ?_
  subst h
  have hs1 : sameTs [] [] = true := rfl
  repeat' (first | apply zSeq | apply zReg | apply zSeqN | apply zSeqR | apply zSkip | apply zRet | apply zNil | apply zBlock | apply zExit | apply zBlkN | apply zBlkR | apply zBlkE | apply zSeqE | apply zLoopR | apply zLoopE | refine yYes' ?_ | refine yNo' ?_ | refine yNoU' ?_ | refine yLd' ?_ | refine yLdI' ?_ | refine yStS' ?_ | refine yStF' ?_ | refine ySt' ?_ | refine yBS' fun _ _ => ?_ | refine yAlloc' fun _ _ => ?_ | refine yBox' fun _ _ => ?_ | refine yOp' ?_ | refine yIfT ?_ | refine yIfF ?_ | refine yIf ?_ ?_ | refine ySplit' ?_ ?_ | refine yIfQ ?_ ?_ | refine ySplitQ' ?_ ?_ | refine yBlkX ?_ | intro _)
  exact zEndP (vs := [.bool true]) (by simp) (fun H1 hS => by simp [rs33]) rfl
/- An own list is appended to and lives on; regions walked over memories in sight. -/
/-- What is in memory stands, but for what may be written. -/
def PreW (H H' : Hp) : Prop := ∀ (b ver : Nat) (k : Blk), H.at b ver = some k → ∃ k', H'.at b ver = some k' ∧ k'.cells = k.cells
theorem PreW.refl (H : Hp) : PreW H H := fun _ _ k h => ⟨k, h, rfl⟩
theorem PreW.trans {A B C : Hp} (h : PreW A B) (g : PreW B C) : PreW A C := fun b ver k hk => by
  obtain ⟨k1, h1, e1⟩ := h b ver k hk
  obtain ⟨k2, h2, e2⟩ := g b ver k1 h1
  exact ⟨k2, h2, e2.trans e1⟩
theorem Pre.w {H H' : Hp} (h : Pre H H') : PreW H H' := fun _ _ k hk => ⟨k, h.at hk, rfl⟩
theorem PreW.new (H : Hp) (cs : List AV) : PreW H (H.new cs) := ((Pre.refl H).new cs).w
def Hp.shr (H : Hp) (b ver : Nat) (vs ys : List AV) : Hp := ⟨(H.bs.set b ⟨ver, vs, false, false⟩) ++ [⟨H.c, ys, true, false⟩], H.c + 1⟩
theorem PreW.shr {H : Hp} {b ver : Nat} {k : Blk} (hk : H.at b ver = some k) (ys : List AV) : PreW H (H.shr b ver k.cells ys) := by
  intro b' ver' k' hk'
  obtain ⟨g1, g2⟩ := Hp.at_some hk
  obtain ⟨h1, h2⟩ := Hp.at_some hk'
  have hb' := (List.getElem?_eq_some_iff.1 h1).1
  by_cases hbb : b = b'
  · subst hbb
    rw [g1] at h1
    cases h1
    refine ⟨⟨ver, k.cells, false, false⟩, ?_, rfl⟩
    simp only [Hp.at, Hp.shr]
    rw [List.getElem?_append_left (by simpa using hb'), List.getElem?_set_self hb']
    simp only
    rw [if_pos (by omega)]
  · refine ⟨k', ?_, rfl⟩
    simp only [Hp.at, Hp.shr]
    rw [List.getElem?_append_left (by simpa using hb'), List.getElem?_set_ne hbb, h1]
    simp only
    rw [if_pos h2]
theorem shr_at (H : Hp) (b ver : Nat) (vs ys : List AV) : (H.shr b ver vs ys).at H.bs.length H.c = some ⟨H.c, ys, true, false⟩ := by
  simp [Hp.at, Hp.shr]
theorem shr_ext {H0 H : Hp} {b ver : Nat} {k : Blk} {vs ys : List AV} (hw0 : Wf H0) (he : Ext H0 H) (hv : H0.c ≤ ver) (hk : H.at b ver = some k) : Ext H0 (H.shr b ver vs ys) := by
  obtain ⟨g1, g2⟩ := Hp.at_some hk
  have hb := (List.getElem?_eq_some_iff.1 g1).1
  refine ⟨?_, ?_, Nat.le_succ_of_le he.c⟩
  · intro i k' hi
    have h1 := he.pre i k' hi
    show ((H.bs.set b _) ++ [_])[i]? = some k'
    rw [List.getElem?_append_left (by simpa using (List.getElem?_eq_some_iff.1 h1).1)]
    by_cases hib : b = i
    · subst hib
      rw [g1] at h1
      cases h1
      exact absurd (hw0 b _ hi) (by omega)
    · rw [List.getElem?_set_ne hib]; exact h1
  · intro i k' hi
    show k'.ver < H.c + 1
    simp only [Hp.shr] at hi
    by_cases hl : i < H.bs.length
    · rw [List.getElem?_append_left (by simpa using hl)] at hi
      by_cases hib : b = i
      · subst hib
        rw [List.getElem?_set_self hb] at hi
        cases hi
        have := he.wf b _ g1
        show ver < H.c + 1
        omega
      · rw [List.getElem?_set_ne hib] at hi
        exact Nat.lt_succ_of_lt (he.wf i k' hi)
    · rw [List.getElem?_append_right (by simpa using hl)] at hi
      have : k' = ⟨H.c, ys, true, false⟩ := by
        rcases hj : i - (H.bs.set b ⟨ver, vs, false, false⟩).length with _ | j
        · rw [hj] at hi; simpa using hi.symm
        · rw [hj] at hi; simp at hi
      subst this
      exact Nat.lt_succ_self _
theorem ints_w {H H' : Hp} (h : PreW H H') {v : AV} {l : List Int} (hv : ints H v = some l) : ints H' v = some l := by
  unfold ints at hv ⊢
  split at hv
  · exact hv
  · exact hv
  · split at hv
    · rename_i hc
      split at hv
      · rename_i k hk
        obtain ⟨k', g1, g2⟩ := h _ _ _ hk
        rw [if_pos hc, g1]
        simp only [g2]
        exact hv
      · cases hv
    · cases hv
  · cases hv
theorem tens_w {H H' : Hp} (h : PreW H H') {v : AV} {p : TS} (hv : tens H v = some p) : tens H' v = some p := by
  obtain ⟨x, y, rfl, hx, hy⟩ := tens_some hv
  exact tens_of (ints_w h hx) (ints_w h hy)
theorem tensG_w {H H' : Hp} (hp : PreW H H') : ∀ (cs : List AV) {L : List TS}, tensG H cs = some L → tensG H' cs = some L
  | [], L, h => by simpa [tensG] using h
  | [_], L, h => by simp [tensG] at h
  | x :: y :: l, L, h => by
    simp only [tensG] at h ⊢
    obtain ⟨p, hp1, h⟩ := Option.bind_eq_some_iff.1 h
    obtain ⟨M, hM, rfl⟩ := Option.map_eq_some_iff.1 h
    rw [tens_w hp hp1, Option.bind_some, tensG_w hp l hM]; rfl
theorem tensL_w {H H' : Hp} (h : PreW H H') {v : AV} {L : List TS} (hv : tensL H v = some L) : tensL H' v = some L := by
  unfold tensL at hv ⊢
  split at hv
  · exact hv
  · exact hv
  · split at hv
    · rename_i hc
      obtain ⟨k, hk, hv⟩ := Option.bind_eq_some_iff.1 hv
      obtain ⟨k', g1, g2⟩ := h _ _ _ hk
      rw [if_pos hc, g1, Option.bind_some]
      simp only [g2]
      split at hv
      · rename_i hle
        rw [if_pos hle]
        exact tensG_w h _ hv
      · cases hv
    · cases hv
  · cases hv
theorem aload_w {t : Nat} {a v : AV} {H G : Hp} (hp : PreW H G) (h : aload T t a H = some v) : aload T t a G = some v := by
  unfold aload at h ⊢
  split at h
  · rename_i i b ver off hi _
    split at h
    · rename_i k hk
      obtain ⟨k', g1, g2⟩ := hp _ _ _ hk
      simp only [g1, g2]
      exact h
    · cases h
  · cases h
/-- What is appended to lives on. -/
theorem aapp_shr {H : Hp} {t e n m b ver es : Nat} {ie : TI} {so : Bool} {y : AV} {vs xs : List AV} (hD : T.d t = .slice e) (hT : T e = some ie) (hes : ie.size = es) (hb0 : ie.bytes ≠ 0) (hk : H.at b ver = some ⟨ver, vs, true, so⟩) (hl : vs.length = n * es) (hx : slCells H y = some (m, xs)) (hxl : xs.length = m * es) (hm : m ≠ 0) (hmax : (n + m) * ie.bytes ≤ maxBytes) : aapp T true t t (.sl b ver 0 n es false) y H = some (.sl H.bs.length H.c 0 (n + m) es false, H.shr b ver vs (vs ++ xs)) := by
  subst hes
  have hmx : ¬ maxBytes < (n + m) * ie.bytes := by omega
  simp only [aapp, hD, hT, Option.bind_some, aappend, hx]
  rw [if_neg (by omega), if_neg hm]
  simp [hk, hl, hb0, hmx, Hp.shr]
/-- Numbers behind a literal's one. -/
theorem aapp_full {H : Hp} {sh : Bool} {b ver n : Nat} {l m : List Int} {v x : AV} {k : Blk} (hv : v = .sl b ver 0 n 1 true) (hk : H.at b ver = some k) (hkc : k.cells = l.map (.int .i64)) (hn : n = l.length) (hx : ints H x = some m) (hl : l.length + m.length < 1099511627776) : ∃ u' H', aapp T sh 22 22 v x H = some (u', H') ∧ (H' = H ∨ ∃ cs, H' = H.new cs) ∧ ints H' u' = some (l ++ m) := by
  subst hv
  subst hn
  have hc := ints_cells hx
  by_cases h0 : m = []
  · subst h0
    refine ⟨.sl b ver 0 l.length 1 true, H, ?_, .inl rfl, ?_⟩
    · simp only [aapp, D22, T3, Option.bind_some, aappend, hc]
      simp
    · simp only [ints, hk, hkc]
      rw [if_pos ⟨trivial, by omega⟩, if_pos (by simp)]
      rw [List.drop_zero, List.take_of_length_le (by simp), toInts_map, List.append_nil]
  · have hne : m.length ≠ 0 := by simpa using h0
    refine ⟨.sl H.bs.length H.c 0 (l.length + m.length) 1 false, H.new ((l ++ m).map (.int .i64)), ?_, .inr ⟨_, rfl⟩, ?_⟩
    · simp only [aapp, D22, T3, Option.bind_some, aappend, hc, hk]
      have hmx : ¬ maxBytes < (l.length + m.length) * 8 := by simp [maxBytes]; omega
      simp [hne, hmx, h0, hkc]
      rw [List.take_of_length_le (by simp)]
    · simp only [ints, new_at]
      rw [if_pos ⟨trivial, by omega⟩, if_pos (by simp)]
      rw [List.drop_zero, List.take_of_length_le (by simp), toInts_map]
theorem full_cells {H : Hp} {b ver n : Nat} {f : Bool} {k : Blk} {l : List Int} (hk : H.at b ver = some k) (hc : k.cells.length = n) (hi : ints H (.sl b ver 0 n 1 f) = some l) : k.cells = l.map (.int .i64) ∧ n = l.length := by
  subst hc
  have h := ints_cells hi
  simp only [slCells, hk] at h
  rw [if_pos (by omega)] at h
  have e := Prod.mk.inj (Option.some.inj h)
  refine ⟨?_, e.1⟩
  rw [← e.2, List.drop_zero, List.take_of_length_le (by omega)]
theorem tensL_own {H : Hp} {b ver n : Nat} {f : Bool} {k : Blk} {L : List TS} (hk : H.at b ver = some k) (hl : k.cells.length = n * 2) (h : tensL H (.sl b ver 0 n 2 f) = some L) : tensG H k.cells = some L := by
  simp only [tensL, hk, Option.bind_some] at h
  split at h
  · rw [if_pos (by omega), List.drop_zero, List.take_of_length_le (by omega)] at h
    exact h
  · cases h
theorem tensL_of {H : Hp} {b ver n : Nat} {f : Bool} {k : Blk} {L : List TS} (hk : H.at b ver = some k) (hl : k.cells.length = n * 2) (hn : n ≤ 2932031007402) (h : tensG H k.cells = some L) : tensL H (.sl b ver 0 n 2 f) = some L := by
  simp only [tensL, hk, Option.bind_some]
  rw [if_pos ⟨trivial, hn⟩, if_pos (by omega), List.drop_zero, List.take_of_length_le (by omega)]
  exact h
theorem bs45 {E : Env} {sh : Bool} {s : Sl} {H : Hp} {x : Operand} {a b : AV} (hx : ev s x = .agg [a, b]) (ha : a.one = true) (hb : b.one = true) : xdo E T sh (.buildSlice 45 1 #[(0, x)]) s H = some (.sl H.bs.length H.c 0 1 2 true, H.new [a, b]) := by
  simp [xdo, aop, D45, T40, afill, rep, setAll, AV.cells, hx, ha, hb]
theorem bs22 {E : Env} {sh : Bool} {s : Sl} {H : Hp} {x : Operand} {a : Int} (hx : ev s x = .int .i64 a) : xdo E T sh (.buildSlice 22 1 #[(0, x)]) s H = some (.sl H.bs.length H.c 0 1 1 true, H.new [.int .i64 a]) := by
  simp [xdo, aop, D22, T3, afill, rep, setAll, AV.cells, hx, AV.one]
/-- All but the first. -/
theorem ts_tail {H : Hp} {b ver n : Nat} {f : Bool} {L : List TS} (h : tensL H (.sl b ver 0 n 2 f) = some L) (h0 : 0 < n) : ∃ v', aslice 2 (.sl b ver 0 n 2 f) (some (.int .i64 1)) none none = some v' ∧ tensL H v' = some (L.drop 1) := by
  refine ⟨.sl b ver 2 (n - 1) 2 f, ?_, ?_⟩
  · simp only [aslice, bnd]
    rw [if_pos ⟨trivial, by omega, by omega, by omega⟩]
    simp
  · unfold tensL at h ⊢
    dsimp only at h ⊢
    split at h
    · rename_i hc
      obtain ⟨k, hk, h⟩ := Option.bind_eq_some_iff.1 h
      split at h
      · rename_i hle
        rw [if_pos ⟨rfl, by omega⟩, hk, Option.bind_some, if_pos (by omega)]
        have e : (k.cells.drop 2).take ((n - 1) * 2) = ((k.cells.drop 0).take (n * 2)).drop 2 := by
          rw [List.drop_zero, List.drop_take]
          congr 1
          omega
        rw [e]
        generalize hcs : (k.cells.drop 0).take (n * 2) = cs at h
        match cs, h, hcs with
        | [], h, hcs =>
          have := congrArg List.length hcs
          rw [List.length_take, List.length_drop] at this
          simp only [List.length_nil] at this
          omega
        | [_], h, _ => simp [tensG] at h
        | x :: y :: l, h, _ =>
          simp only [tensG] at h
          obtain ⟨p, hp1, h⟩ := Option.bind_eq_some_iff.1 h
          obtain ⟨M, hM, rfl⟩ := Option.map_eq_some_iff.1 h
          simpa using hM
      · cases h
    · cases h
theorem tensG_snoc {H : Hp} {x y : AV} {p : TS} (hq : tens H (.agg [x, y]) = some p) : ∀ (cs : List AV) {L : List TS}, tensG H cs = some L → tensG H (cs ++ [x, y]) = some (L ++ [p])
  | [], L, h => by
    simp only [tensG] at h
    cases h
    simp [tensG, hq]
  | [_], L, h => by simp [tensG] at h
  | a :: b :: l, L, h => by
    simp only [tensG] at h
    obtain ⟨r, hr, h⟩ := Option.bind_eq_some_iff.1 h
    obtain ⟨M, hM, rfl⟩ := Option.map_eq_some_iff.1 h
    simp only [List.cons_append, tensG]
    rw [hr, Option.bind_some, tensG_snoc hq l hM]
    rfl
theorem SL.own {H0 H : Hp} {L : Lo} (h : SL ⟨H0, []⟩ L H) {i n es : Nat} {f : Bool} {cs : List Tr} {u : AV} (hi : L[i]? = some (u, .sl n es f cs)) : ∃ b ver vs, u = .sl b ver 0 n es f ∧ H.at b ver = some ⟨ver, vs, true, true⟩ ∧ H0.c ≤ ver ∧ vs.length = cs.length := by
  obtain ⟨bs, h1, h2, h3⟩ := h.rx
  obtain ⟨v', b1, b', b2, g1, rfl, g3, _, g5⟩ := RXs.pick _ h1 i _ (getE hi)
  rw [getE hi] at g1
  cases g1
  simp only [RX] at g3
  obtain ⟨b, ver, vs, bs', rfl, hk, hr, rfl⟩ := g3
  refine ⟨b, ver, vs, rfl, hk, ?_, RXs.len _ hr⟩
  rcases h3 (b, ver) (by simp) with h | h
  · exact h
  · simp at h
section
variable {E : Env} {B : Bs} {s : Sl} {L : Lo} {k : Zt}
theorem zIn {c : Cc} {H : Hp} {k0 : Ct} (hw : Wf H) (h : ∀ Q : Ex → Sl → Hp → Prop, (∀ x s' H', K E T k0 x s' H' → Q x s' H') → Z E ⟨H, []⟩ c s [] (.fin Q)) : Y E T c s H k0 :=
  ⟨((h (k0.den E T) fun x s' H' hk => hk.out).out H (SL.nil hw [])).out⟩
theorem zOut {Q : Ex → Sl → Hp → Prop} {x : Ex} (h : ∀ H, SL B L H → Q x s H) : ZK E B (.fin Q) x s L := ⟨fun H hS => ⟨h H hS⟩⟩
/-- A region is walked over memories in sight; behind it all begins anew. -/
theorem zDrwY {sh l rs} (hk : ∀ B', k.den B = k.den B') (h : ∀ H, SL B L H → ∀ kk : Ct, (∀ s' H', Wf H' → ZK E ⟨H', []⟩ k .norm s' [] → K E T kk .norm s' H') → YT E T sh l rs l s H [] kk) : Z E B (.drw sh l rs) s L k :=
  ⟨fun H hS => goDrw (h H hS (k.den B) fun s' H' hw hz => by rw [hk ⟨H', []⟩]; exact hz.out H' (SL.nil hw []))⟩
end
section
variable {E : Env} {sh : Bool} {full : List Co} {rs : List (Nat × Nat)} {s : Sl} {H : Hp} {tr : List (Sl × Hp)} {k : Ct}
/-- The trace is kept with the last first. -/
structure YR (E : Env) (sh : Bool) (full : List Co) (rs : List (Nat × Nat)) (l : List Co) (s : Sl) (H : Hp) (rt : List (Sl × Hp)) (k : Ct) : Prop where
  out : YT E T sh full rs l s H rt.reverse k
theorem rStart {l} (h : YR E sh full rs l s H [] k) : YT E T sh full rs l s H [] k := h.out
theorem rOpE {d o l v H' q} (e : xdo E T sh o s H = q) (eq : q = some (v, H')) (h : YR E sh full rs l ((d, v) :: s) H' ((s, H) :: tr) k) : YR E sh full rs (⟨some d, o, none⟩ :: l) s H tr k := ⟨goTOp e eq (by have := h.out; rwa [List.reverse_cons] at this)⟩
theorem rYesE {d o l v j want H' q} (hg : get s j = .bool want) (e : xdo E T sh o s H = q) (eq : q = some (v, H')) (h : YR E sh full rs l ((d, v) :: s) H' ((s, H) :: tr) k) : YR E sh full rs (⟨some d, o, some (j, want)⟩ :: l) s H tr k := ⟨goTYes hg e eq (by have := h.out; rwa [List.reverse_cons] at this)⟩
theorem rOp {d o l v q} (h : YR E sh full rs l ((d, v) :: s) H ((s, H) :: tr) k) (e : xdo E T sh o s H = q := by simp [*]; try exact rfl; first | done | fail) (eq : q = some (v, H) := by exact rfl) : YR E sh full rs (⟨some d, o, none⟩ :: l) s H tr k := rOpE e eq h
theorem rYes {d o l v j want q} (h : YR E sh full rs l ((d, v) :: s) H ((s, H) :: tr) k) (hg : get s j = .bool want := by simp [*]; first | done | fail) (e : xdo E T sh o s H = q := by simp [*]; try exact rfl; first | done | fail) (eq : q = some (v, H) := by exact rfl) : YR E sh full rs (⟨some d, o, some (j, want)⟩ :: l) s H tr k := rYesE hg e eq h
theorem rNil (ha : again E T sh full ((s, H) :: tr).reverse rs) (h : K E T k .norm s H) : YR E sh full rs [] s H tr k := ⟨goTNil (by rwa [List.reverse_cons] at ha) h⟩
theorem again_rev {l : List Co} {N q p : Nat} (q' p' : Nat) {o : Co} {s' : Sl} {H' : Hp} (hN : tr.length = N) (hq : q' + q + 1 = N) (hp : p' + p + 1 = N) (h1 : l[q]? = some o) (h2 : tr[q']? = some (s, H)) (h3 : tr[p']? = some (s', H')) (h : XG o.g s ((xdo E T sh o.o s H').map (·.1) = (xdo E T sh o.o s H).map (·.1)) True) (hr : again E T sh l tr.reverse rs) : again E T sh l tr.reverse ((q, p) :: rs) := by
  refine ⟨?_, hr⟩
  rw [List.getElem?_reverse (by omega), List.getElem?_reverse (by omega), show tr.length - 1 - q = q' by omega, show tr.length - 1 - p = p' by omega, h1, h2, h3]
  exact h
theorem XG_eq {g : Option (Nat × Bool)} {j : Nat} {a b : Bool} {p : Prop} (hg : g = some (j, a)) (h : get s j = .bool b) (hp : p) : XG g s p True := by
  subst hg
  simp [XG, h, hp]
end
/- Walks: which device is somewhere; lists that are the same. -/
def rOfL (sz l : List Int) : Int := if rOK sz = false ∨ l.length ≠ sz.length then -1 else ofGo 0 sz l
theorem rOfL_eq (sz l : List Int) : rOfL sz l = ofL sz l := by simp only [rOfL, ofL, rOK_eq]
def F127 (args : List AV) (H : Hp) : Option AV := match args with
  | [a, b] => (ints H a).bind fun sz => (ints H b).map fun l => .int .i64 (rOfL sz l)
  | _ => none
set_option maxHeartbeats 1000000 in
theorem snd127 : Sound Try.prog 127 (FSem.pure F127).run := by
  refine sound_of hT (EOK_cons snd56 (EOK_nil _)) mixed A127 Try.func127 hb127 (by kernel_rfl) (by kernel_rfl) (by kernel_rfl) (by kernel_rfl) sh127 2 (by kernel_rfl) rs127 hr127 ?_
  intro args H r H' hw h
  obtain ⟨rfl, hv⟩ := pureAt h
  clear h
  unfold F127 at hv
  split at hv
  · rename_i a v
    obtain ⟨sz, hsz, hv⟩ := Option.bind_eq_some_iff.1 hv
    obtain ⟨l, hl, hv⟩ := Option.map_eq_some_iff.1 hv
    cases hv
    have hlen := alenS_ints hl
    have hb := ints_len hl
    have hlen2 := alenS_ints hsz
    have hix := aidxS_ints hl .i64
    have hld := aload_nth T3 rfl hl
    have hix2 := aidxS_ints hsz .i64
    have hld2 := aload_nth T3 rfl hsz
    refine ⟨rfl, go ?_⟩
    unfold c127
    simp only [argSl]
    simp only [← aidx22, ← alen22] at hix hlen hix2 hlen2
    rcases hm : rOK sz with _ | _
    · repeat' (first | apply goSeq | apply goReg | apply goSeqN | apply goSeqR | apply goSkip | apply goRet | apply goNil | apply goBlock | apply goExit | apply goBlkN | apply goBlkR | apply goBlkE | apply goSeqE | apply goLoopR | apply goLoopE | refine xOp ?_ | refine xOp0 ?_ | refine xYes ?_ | refine xNo ?_ | refine xNoU ?_ | refine xIfT ?_ | refine xIfF ?_ | refine xIf ?_ ?_ | refine xSplit ?_ ?_ | refine xIfQ ?_ ?_ | refine xSplitQ ?_ ?_ | refine xBlkX ?_ | intro _)
      refine goEnd hw (Pre.refl _) (by simp) (by simp [rs127]; exact rfl) rfl ?_
      simp [rOfL, hm]
    · by_cases hll : l.length = sz.length
      · have hres : rOfL sz l = ofGo 0 sz l := by simp [rOfL, hm, hll]
        have hll' : (sz.length : Int) = l.length := by omega
        rw [hres]
        rw [hll'] at hix2 hld2 hlen2
        have hll'' : l.length = sz.length := hll
        clear hll hll' hres
        replace hll'' := Hide.mk hll''
        repeat' (first | apply goSeq | apply goReg | apply goSeqN | apply goSeqR | apply goSkip | apply goRet | apply goNil | apply goBlock | apply goExit | apply goBlkN | apply goBlkR | apply goBlkE | apply goSeqE | apply goLoopR | apply goLoopE | refine xOp ?_ | refine xOp0 ?_ | refine xYes ?_ | refine xNo ?_ | refine xNoU ?_ | refine xIfT ?_ | refine xIfF ?_ | refine xIf ?_ ?_ | refine xSplit ?_ ?_ | refine xIfQ ?_ ?_ | refine xSplitQ ?_ ?_ | refine xBlkX ?_ | intro _)
        refine goLoop (fun m s1 H1 => H1 = H' ∧ ∃ (i : Nat) (d : Int), m = l.length - i ∧ i ≤ l.length ∧ get s1 0 = a ∧ get s1 1 = v ∧ get s1 5 = .int .i64 d ∧ get s1 18 = .int .i64 l.length ∧ get s1 19 = .int .i64 i ∧ ofGo d (sz.drop i) (l.drop i) = ofGo 0 sz l) l.length ?_ ?_
        · exact ⟨rfl, 0, 0, rfl, Nat.zero_le _, rfl, rfl, rfl, rfl, rfl, by simp⟩
        · rintro m s1 H1 ⟨rfl, i, d, hmm, hi, g1, g2, g3, g4, g5, hgo⟩
          simp only [cut_cons, cut_nil, g1, g2, g3, g4, g5]
          clear g1 g2 g3 g4 g5
          have hi0 : (0 : Int) ≤ i := Int.natCast_nonneg i
          have hw1 : w ((i : Int) + 1) = ((i + 1 : Nat) : Int) := w_id (by omega)
          have hd := fun h => drop_nth l i h
          have hd2 : i < l.length → sz.drop i = nth sz i :: sz.drop (i + 1) := fun h => drop_nth sz i (by have := hll''.out; omega)
          have hnil : ¬ i < l.length → l.drop i = [] := fun h => List.drop_of_length_le (by omega)
          replace hgo := Hide.mk hgo
          replace hd := Hide.mk hd
          replace hd2 := Hide.mk hd2
          replace hnil := Hide.mk hnil
          repeat' (first | apply goSeq | apply goReg | apply goSeqN | apply goSeqR | apply goSkip | apply goRet | apply goNil | apply goBlock | apply goExit | apply goBlkN | apply goBlkR | apply goBlkE | apply goSeqE | apply goLoopR | apply goLoopE | refine xOp ?_ | refine xOp0 ?_ | refine xYes ?_ | refine xNo ?_ | refine xNoU ?_ | refine xIfT ?_ | refine xIfF ?_ | refine xIf ?_ ?_ | refine xSplit ?_ ?_ | refine xIfQ ?_ ?_ | refine xSplitQ ?_ ?_ | refine xBlkX ?_ | intro _)
          all_goals replace hgo := hgo.out
          all_goals replace hd := hd.out
          all_goals replace hd2 := hd2.out
          all_goals (try simp only [Bool.not_eq_true', decide_eq_false_iff_not, Bool.not_eq_false', decide_eq_true_eq] at *)
          all_goals first
            | (refine goEnd hw (Pre.refl _) (by simp) (by simp [rs127]; exact rfl) rfl ?_; rw [← hgo, hd (by assumption), hd2 (by assumption)]; simp [ofGo, *]; done)
            | (refine goEnd hw (Pre.refl _) (by simp) (by simp [rs127]; exact rfl) rfl ?_; rw [← hgo, hnil.out (by assumption)]; cases sz.drop i <;> simp [ofGo]; done)
            | (refine goLoopN (l.length - (i + 1)) (by omega) ⟨rfl, i + 1, _, rfl, by omega, rfl, rfl, rfl, rfl, rfl, ?_⟩; rw [← hgo, hd (by assumption), hd2 (by assumption)]; simp [ofGo, *])
      · repeat' (first | apply goSeq | apply goReg | apply goSeqN | apply goSeqR | apply goSkip | apply goRet | apply goNil | apply goBlock | apply goExit | apply goBlkN | apply goBlkR | apply goBlkE | apply goSeqE | apply goLoopR | apply goLoopE | refine xOp ?_ | refine xOp0 ?_ | refine xYes ?_ | refine xNo ?_ | refine xNoU ?_ | refine xIfT ?_ | refine xIfF ?_ | refine xIf ?_ ?_ | refine xSplit ?_ ?_ | refine xIfQ ?_ ?_ | refine xSplitQ ?_ ?_ | refine xBlkX ?_ | intro _)
        · refine goEnd hw (Pre.refl _) (by simp) (by simp [rs127]; exact rfl) rfl ?_
          simp [rOfL, hm, hll]
        · rename_i hc
          simp at hc
          omega
  · cases hv
@[simp] theorem F127_at (a b : AV) (H : Hp) : F127 [a, b] H = (ints H a).bind fun sz => (ints H b).map fun l => .int .i64 (rOfL sz l) := rfl
/- Walks: the document's least device that has the same part; spec.Whole. -/
theorem anyEq_app (x y : Int) (l : List Int) : anyEq x (l ++ [y]) = (anyEq x l || decide (y = x)) := by
  induction l with
  | nil => simp [anyEq]
  | cons a l ih =>
    simp only [List.cons_append, anyEq]
    by_cases h : a = x
    · simp [h]
    · simp [h, ih]
theorem anyEq_contains (l : List Int) (x : Int) : anyEq x l = contains l x := by
  rw [Bool.eq_iff_iff, anyEq_iff, contains_iff]
def F67 (args : List AV) (H : Hp) : Option AV := match args with
  | [a, b, .int .i64 d] => (ints H a).bind fun sz => (ints H b).map fun sp => .int .i64 (firstL sz sp d)
  | _ => none
set_option maxHeartbeats 2000000 in
theorem snd67 : Sound Try.prog 67 (FSem.pure F67).run := by
  refine sound_of hT (EOK_cons snd20 (EOK_cons snd58 (EOK_cons snd98 (EOK_cons snd127 (EOK_nil _))))) mixed A67 Try.func67 hb67 (by kernel_rfl) (by kernel_rfl) (by kernel_rfl) (by kernel_rfl) sh67 3 (by kernel_rfl) rs67 hr67 ?_
  intro args H r H' hw h
  obtain ⟨rfl, hv⟩ := pureAt h
  clear h
  unfold F67 at hv
  split at hv
  · rename_i a v d
    obtain ⟨sz, hsz, hv⟩ := Option.bind_eq_some_iff.1 hv
    obtain ⟨l, hl, hv⟩ := Option.map_eq_some_iff.1 hv
    cases hv
    have hlen := alenS_ints hl
    have hll := ints_len hl
    simp only [← alen22] at hlen
    have hrd := rDevs_eq sz
    have hrs := rSpecOK_eq sz l l.length
    have hro := rOfL_eq sz
    refine ⟨rfl, go ?_⟩
    unfold c67
    simp only [argSl]
    by_cases hd0 : d < 0
    · repeat' (first | apply goSeq | apply goReg | apply goSeqN | apply goSeqR | apply goSkip | apply goRet | apply goNil | apply goBlock | apply goExit | apply goBlkN | apply goBlkR | apply goBlkE | apply goSeqE | apply goLoopR | apply goLoopE | refine xOp ?_ | refine xOp0 ?_ | refine xYes ?_ | refine xNo ?_ | refine xNoU ?_ | refine xIfT ?_ | refine xIfF ?_ | refine xIf ?_ ?_ | refine xSplit ?_ ?_ | refine xIfQ ?_ ?_ | refine xSplitQ ?_ ?_ | refine xBlkX ?_ | intro _)
      refine goEnd hw (Pre.refl _) (by simp) (by simp [rs67]; exact rfl) rfl ?_
      simp [firstL, hd0]
    by_cases hd1 : devs sz ≤ d
    · repeat' (first | apply goSeq | apply goReg | apply goSeqN | apply goSeqR | apply goSkip | apply goRet | apply goNil | apply goBlock | apply goExit | apply goBlkN | apply goBlkR | apply goBlkE | apply goSeqE | apply goLoopR | apply goLoopE | refine xOp ?_ | refine xOp0 ?_ | refine xYes ?_ | refine xNo ?_ | refine xNoU ?_ | refine xIfT ?_ | refine xIfF ?_ | refine xIf ?_ ?_ | refine xSplit ?_ ?_ | refine xIfQ ?_ ?_ | refine xSplitQ ?_ ?_ | refine xBlkX ?_ | intro _)
      refine goEnd hw (Pre.refl _) (by simp) (by simp [rs67]; exact rfl) rfl ?_
      simp [firstL, hd1]
    rcases hsp : specOK sz l l.length with _ | _
    · rw [hsp] at hrs
      repeat' (first | apply goSeq | apply goReg | apply goSeqN | apply goSeqR | apply goSkip | apply goRet | apply goNil | apply goBlock | apply goExit | apply goBlkN | apply goBlkR | apply goBlkE | apply goSeqE | apply goLoopR | apply goLoopE | refine xOp ?_ | refine xOp0 ?_ | refine xYes ?_ | refine xNo ?_ | refine xNoU ?_ | refine xIfT ?_ | refine xIfF ?_ | refine xIf ?_ ?_ | refine xSplit ?_ ?_ | refine xIfQ ?_ ?_ | refine xSplitQ ?_ ?_ | refine xBlkX ?_ | intro _)
      refine goEnd hw (Pre.refl _) (by simp) (by simp [rs67]; exact rfl) rfl ?_
      simp [firstL, hsp]
    rw [hsp] at hrs
    have hres : firstL sz l d = ofL sz (maskL l 0 (meshAt sz d)) := by simp [firstL, hsp, hd0, hd1]
    rw [hres]
    have h3 := (meshOK_pos (specOK_lt hsp).2.1).1
    have hml := meshAt_len sz d
    have e98 : F98 [a, .int .i64 d] H' = some (mkF H' (meshAt sz d)) := by
      simp only [F98, hsz, Option.map_some]
      rw [if_neg (by omega)]
    generalize meshAt sz d = M at *
    have hMe := mkF_ext hw M
    have hMo := mkF_own H' M
    have hMl : alen T 22 (mkF H' M).1 = some (.int .i64 M.length) := by rw [alen22]; rfl
    clear hres
    generalize hr1 : mkF H' M = r1 at *
    obtain ⟨u0, H1⟩ := r1
    simp only at hMe hMo hMl
    replace hMo := Hide.mk hMo
    replace hml := Hide.mk hml
    replace hll := Hide.mk hll
    repeat' (first | apply goSeq | apply goReg | apply goSeqN | apply goSeqR | apply goSkip | apply goRet | apply goNil | apply goBlock | apply goExit | apply goBlkN | apply goBlkR | apply goBlkE | apply goSeqE | apply goLoopR | apply goLoopE | refine xOp ?_ | refine xOp0 ?_ | refine xYes ?_ | refine xNo ?_ | refine xNoU ?_ | refine xIfT ?_ | refine xIfF ?_ | refine xIf ?_ ?_ | refine xSplit ?_ ?_ | refine xIfQ ?_ ?_ | refine xSplitQ ?_ ?_ | refine xBlkX ?_ | intro _)
    refine goLoop (fun m s1 H2 => Ext H' H2 ∧ ∃ (i : Nat) (out : List Int), m = M.length - i ∧ i ≤ M.length ∧ get s1 0 = a ∧ get s1 1 = v ∧ get s1 7 = u0 ∧ get s1 31 = .int .i64 M.length ∧ get s1 32 = .int .i64 i ∧ OwnF H' H2 u0 out ∧ out.length = M.length ∧ out.take i ++ maskL l i (out.drop i) = maskL l 0 M) M.length ?_ ?_
    · exact ⟨hMe, 0, M, rfl, Nat.zero_le _, rfl, rfl, rfl, rfl, rfl, hMo.out, rfl, by simp⟩
    · clear e98 hMe hMo hMl hr1 hrs hrd
      rintro m s1 H2 ⟨he, i, out, hmm, hi, g1, g2, g3, g4, g5, ho, hol, hgo⟩
      simp only [cut_cons, cut_nil, g1, g2, g3, g4, g5]
      clear g1 g2 g3 g4 g5
      have hi0 : (0 : Int) ≤ i := Int.natCast_nonneg i
      have hw1 : w ((i : Int) + 1) = ((i + 1 : Nat) : Int) := w_id (by have := hml.out; omega)
      have hiu := ints_of_ownF ho (by have := hml.out; omega)
      have hixu := aidxS_ints hiu .i64
      simp only [← aidx22, hol] at hixu
      have hsz2 := ints_ext he.pre hsz
      have hl2 := ints_ext he.pre hl
      have hixl := aidxS_ints hl2 .i64
      have hldl := aload_nth T3 rfl hl2
      simp only [← aidx22] at hixl
      have hd := fun h => drop_nth out i h
      have ht := fun h => take_nth out i h
      clear hsz hl hl2
      replace hd := Hide.mk hd
      replace ht := Hide.mk ht
      replace ho := Hide.mk ho
      replace hgo := Hide.mk hgo
      replace hol := Hide.mk hol
      repeat' (first | apply goSeq | apply goReg | apply goSeqN | apply goSeqR | apply goSkip | apply goRet | apply goNil | apply goBlock | apply goExit | apply goBlkN | apply goBlkR | apply goBlkE | apply goSeqE | apply goLoopR | apply goLoopE | refine xOp ?_ | refine xOp0 ?_ | refine xYes ?_ | refine xNo ?_ | refine xNoU ?_ | refine xIfT ?_ | refine xIfF ?_ | refine xIf ?_ ?_ | refine xSplit ?_ ?_ | refine xIfQ ?_ ?_ | refine xSplitQ ?_ ?_ | refine xBlkX ?_ | intro _)
      · rename_i hil
        refine goLoop (fun m2 s2 H3 => H3 = H2 ∧ ∃ (j : Nat), m2 = l.length - j ∧ j ≤ l.length ∧ get s2 0 = a ∧ get s2 1 = v ∧ get s2 7 = u0 ∧ get s2 8 = .int .i64 i ∧ get s2 9 = .bool (anyEq i (l.take j)) ∧ get s2 31 = .int .i64 M.length ∧ get s2 32 = .int .i64 i ∧ get s2 36 = .int .i64 l.length ∧ get s2 37 = .int .i64 j) l.length ?_ ?_
        · exact ⟨rfl, 0, rfl, Nat.zero_le _, rfl, rfl, rfl, rfl, rfl, rfl, rfl, rfl, rfl⟩
        · rintro m2 s2 H3 ⟨rfl, j, hmj, hj, g1, g2, g3, g4, g5, g6, g7, g8, g9⟩
          simp only [cut_cons, cut_nil, g1, g2, g3, g4, g5, g6, g7, g8, g9]
          clear g1 g2 g3 g4 g5 g6 g7 g8 g9
          have hj0 : (0 : Int) ≤ j := Int.natCast_nonneg j
          have hw2 : w ((j : Int) + 1) = ((j + 1 : Nat) : Int) := w_id (by have := hll.out; omega)
          have ht2 := fun h => take_nth l j h
          replace ht2 := Hide.mk ht2
          by_cases hjl : j < l.length
          · rcases hq : anyEq i (l.take j) with _ | _
            · have hq' := Hide.mk hq
              repeat' (first | apply goSeq | apply goReg | apply goSeqN | apply goSeqR | apply goSkip | apply goRet | apply goNil | apply goBlock | apply goExit | apply goBlkN | apply goBlkR | apply goBlkE | apply goSeqE | apply goLoopR | apply goLoopE | refine xOp ?_ | refine xOp0 ?_ | refine xYes ?_ | refine xNo ?_ | refine xNoU ?_ | refine xIfT ?_ | refine xIfF ?_ | refine xIf ?_ ?_ | refine xSplit ?_ ?_ | refine xIfQ ?_ ?_ | refine xSplitQ ?_ ?_ | refine xBlkX ?_ | intro _)
              refine goLoopN (l.length - (j + 1)) (by omega) ⟨rfl, j + 1, rfl, by omega, rfl, rfl, rfl, rfl, ?_, rfl, rfl, rfl, rfl⟩
              rw [ht2.out hjl, anyEq_app, hq'.out]
              simp
            · have hq' := Hide.mk hq
              repeat' (first | apply goSeq | apply goReg | apply goSeqN | apply goSeqR | apply goSkip | apply goRet | apply goNil | apply goBlock | apply goExit | apply goBlkN | apply goBlkR | apply goBlkE | apply goSeqE | apply goLoopR | apply goLoopE | refine xOp ?_ | refine xOp0 ?_ | refine xYes ?_ | refine xNo ?_ | refine xNoU ?_ | refine xIfT ?_ | refine xIfF ?_ | refine xIf ?_ ?_ | refine xSplit ?_ ?_ | refine xIfQ ?_ ?_ | refine xSplitQ ?_ ?_ | refine xBlkX ?_ | intro _)
              refine goLoopN (l.length - (j + 1)) (by omega) ⟨rfl, j + 1, rfl, by omega, rfl, rfl, rfl, rfl, ?_, rfl, rfl, rfl, rfl⟩
              rw [ht2.out hjl, anyEq_app, hq'.out]
              simp
          · have hl' : l.take j = l := List.take_of_length_le (by omega)
            rw [hl']
            have hac := anyEq_contains l i
            rw [hac]
            clear hl' ht2 hac
            rcases hc : contains l i with _ | _
            · have hc' := Hide.mk hc
              repeat' (first | apply goSeq | apply goReg | apply goSeqN | apply goSeqR | apply goSkip | apply goRet | apply goNil | apply goBlock | apply goExit | apply goBlkN | apply goBlkR | apply goBlkE | apply goSeqE | apply goLoopR | apply goLoopE | refine xOp ?_ | refine xOp0 ?_ | refine xYes ?_ | refine xNo ?_ | refine xNoU ?_ | refine xIfT ?_ | refine xIfF ?_ | refine xIf ?_ ?_ | refine xSplit ?_ ?_ | refine xIfQ ?_ ?_ | refine xSplitQ ?_ ?_ | refine xBlkX ?_ | intro _)
              have hol := hol.out
              obtain ⟨H4, e, ho3, he3⟩ := store_own hw he ho.out i (by omega) 0
              refine goOp0 (v := .bad) (H' := H4) rfl (by simp [e]) ?_
              clear e
              replace ho3 := Hide.mk ho3
              have hol' := Hide.mk hol
              clear hol
              repeat' (first | apply goSeq | apply goReg | apply goSeqN | apply goSeqR | apply goSkip | apply goRet | apply goNil | apply goBlock | apply goExit | apply goBlkN | apply goBlkR | apply goBlkE | apply goSeqE | apply goLoopR | apply goLoopE | refine xOp ?_ | refine xOp0 ?_ | refine xYes ?_ | refine xNo ?_ | refine xNoU ?_ | refine xIfT ?_ | refine xIfF ?_ | refine xIf ?_ ?_ | refine xSplit ?_ ?_ | refine xIfQ ?_ ?_ | refine xSplitQ ?_ ?_ | refine xBlkX ?_ | intro _)
              have hol := hol'.out
              refine goLoopN (M.length - (i + 1)) (by omega) ⟨he3, i + 1, out.set i 0, rfl, by omega, rfl, rfl, rfl, rfl, rfl, ho3.out, by simp [hol], ?_⟩
              rw [take_set1 out i 0 (by omega), ← hgo.out, hd.out (by omega)]
              simp [maskL, hc'.out, List.drop_set]
            · have hc' := Hide.mk hc
              repeat' (first | apply goSeq | apply goReg | apply goSeqN | apply goSeqR | apply goSkip | apply goRet | apply goNil | apply goBlock | apply goExit | apply goBlkN | apply goBlkR | apply goBlkE | apply goSeqE | apply goLoopR | apply goLoopE | refine xOp ?_ | refine xOp0 ?_ | refine xYes ?_ | refine xNo ?_ | refine xNoU ?_ | refine xIfT ?_ | refine xIfF ?_ | refine xIf ?_ ?_ | refine xSplit ?_ ?_ | refine xIfQ ?_ ?_ | refine xSplitQ ?_ ?_ | refine xBlkX ?_ | intro _)
              have hol := hol.out
              refine goLoopN (M.length - (i + 1)) (by omega) ⟨he, i + 1, out, rfl, by omega, rfl, rfl, rfl, rfl, rfl, ho.out, hol, ?_⟩
              rw [← hgo.out, ht.out (by omega), hd.out (by omega)]
              simp [maskL, hc'.out]
      · rename_i hil
        refine goEnd hw he.pre (by simp) (by simp [rs67]; exact rfl) rfl ?_
        have h1 := hgo.out
        have hol := hol.out
        rw [List.drop_of_length_le (by omega), List.take_of_length_le (by omega)] at h1
        simp only [maskL, List.append_nil] at h1
        rw [← h1]; rfl
  · cases hv
@[simp] theorem F67_at (a b : AV) (d : Int) (H : Hp) : F67 [a, b, .int .i64 d] H = (ints H a).bind fun sz => (ints H b).map fun sp => .int .i64 (firstL sz sp d) := rfl
/- Functions in short form. -/
/-! parquetry/parquetryref14.Join (4 parameters; calls 20 parquetry/parquetryref14.Devices, 39 parquetry/parquetryref1.Same, 40 parquetry/parquetryref14.Tile, 41 parquetry/parquetryref1.Place, 42 parquetry/parquetryref1.Index, 67 parquetry/parquetryref14.First, 70 parquetry/parquetryref1.Fill, 84 parquetry/parquetryref1.Tensor, 85 parquetry/parquetryref14.may, 97 parquetry/parquetryref1.Ints) -/
def A86 : Ann := { live := fun i => if i = 7 then [0, 1, 2, 3, 8, 10, 35, 36] else if i = 14 then [0, 1, 2, 3, 8, 10, 66, 67] else if i = 20 then [0, 1, 2, 3, 8, 10, 14, 15, 66, 67, 97, 98] else if i = 24 then [0, 1, 2, 3, 8, 10, 14, 15, 17, 18, 66, 67, 97, 98, 109, 110] else [], drop := fun i => false }
noncomputable def c86 : Cc :=
  (.seq (.reg false [⟨some 8, (Op.alloc 40), none⟩,
    ⟨some 9, (Op.assign (Operand.const (Value.int IntKind.i64 0))), none⟩])
  (.seq (.seq (.reg false [⟨some 20, (Op.move (Operand.tmp 1)), none⟩,
    ⟨some 21, (Op.move (Operand.tmp 2)), none⟩,
    ⟨some 22, (Op.move (Operand.tmp 3)), none⟩,
    ⟨some 23, (Op.call { callee := (Callee.value (Operand.func 85)), args := #[(Operand.tmp 20), (Operand.tmp 21), (Operand.tmp 22)], argTypes := #[22, 22, 22] }), none⟩,
    ⟨some 24, (Op.unOp UnOp.not 4 (Operand.tmp 23)), none⟩])
  (.cond (Operand.tmp 24)
    (.seq (.reg false [⟨some 25, (Op.build 40 #[]), none⟩,
      ⟨none, (Op.store 40 (Operand.tmp 8) (Operand.tmp 25)), none⟩,
      ⟨some 9, (Op.assign (Operand.const (Value.int IntKind.i64 1))), none⟩])
    .ret)
    .skip))
  (.seq (.seq (.reg false [⟨some 26, (Op.move (Operand.tmp 0)), none⟩,
    ⟨some 27, (Op.call { callee := (Callee.builtin Builtin.len), args := #[(Operand.tmp 26)], argTypes := #[45] }), none⟩,
    ⟨some 28, (Op.move (Operand.tmp 2)), none⟩,
    ⟨some 29, (Op.call { callee := (Callee.value (Operand.func 20)), args := #[(Operand.tmp 28)], argTypes := #[22] }), none⟩,
    ⟨some 30, (Op.binOp BinOp.neq 3 (Operand.tmp 27) (Operand.tmp 29) 3), none⟩])
  (.cond (Operand.tmp 30)
    (.seq (.reg false [⟨some 31, (Op.build 40 #[]), none⟩,
      ⟨none, (Op.store 40 (Operand.tmp 8) (Operand.tmp 31)), none⟩,
      ⟨some 9, (Op.assign (Operand.const (Value.int IntKind.i64 13))), none⟩])
    .ret)
    .skip))
  (.seq (.reg false [⟨some 32, (Op.move (Operand.tmp 1)), none⟩,
    ⟨some 33, (Op.call { callee := (Callee.value (Operand.func 70)), args := #[(Operand.tmp 32), (Operand.const (Value.int IntKind.i64 0))], argTypes := #[22, 2] }), none⟩,
    ⟨some 10, (Op.alloc 40), none⟩,
    ⟨none, (Op.store 40 (Operand.tmp 10) (Operand.tmp 33)), none⟩])
  (.seq (.seq (.reg false [⟨some 34, (Op.move (Operand.tmp 0)), none⟩,
    ⟨some 35, (Op.call { callee := (Callee.builtin Builtin.len), args := #[(Operand.tmp 34)], argTypes := #[45] }), none⟩,
    ⟨some 36, (Op.move (Operand.const (Value.int IntKind.i64 0))), none⟩])
  (.block 0 (.loop [0, 1, 2, 3, 8, 10, 35, 36] false
    (.seq (.reg false [⟨some 37, (Op.binOp BinOp.lss 3 (Operand.tmp 36) (Operand.tmp 35) 3), none⟩])
    (.seq (.cond (Operand.tmp 37)
      .skip
      (.exit 0))
    (.seq (.block 1 (.seq (.reg false [⟨some 38, (Op.move (Operand.tmp 36)), none⟩,
      ⟨some 11, (Op.assign (Operand.tmp 38)), none⟩])
    (.seq (.reg false [⟨some 40, (Op.move (Operand.tmp 1)), none⟩,
      ⟨some 41, (Op.move (Operand.tmp 2)), none⟩,
      ⟨some 42, (Op.move (Operand.tmp 3)), none⟩,
      ⟨some 43, (Op.move (Operand.tmp 11)), none⟩,
      ⟨some 44, (Op.call { callee := (Callee.value (Operand.func 40)), args := #[(Operand.tmp 40), (Operand.tmp 41), (Operand.tmp 42), (Operand.tmp 43)], argTypes := #[22, 22, 22, 3] }), none⟩,
      ⟨some 39, (Op.move (Operand.tmp 44)), none⟩,
      ⟨some 45, (Op.extract (Operand.tmp 39) 0), none⟩,
      ⟨some 46, (Op.extract (Operand.tmp 39) 1), none⟩,
      ⟨some 12, (Op.assign (Operand.tmp 45)), none⟩,
      ⟨some 13, (Op.assign (Operand.tmp 46)), none⟩])
    (.seq (.reg false [⟨some 47, (Op.move (Operand.tmp 0)), none⟩,
      ⟨some 48, (Op.move (Operand.tmp 11)), none⟩,
      ⟨some 49, (Op.indexAddr 45 (Operand.tmp 47) (Operand.tmp 48)), none⟩,
      ⟨some 50, (Op.load 40 (Operand.tmp 49)), none⟩,
      ⟨some 51, (Op.call { callee := (Callee.value (Operand.func 84)), args := #[(Operand.tmp 50)], argTypes := #[40] }), none⟩,
      ⟨some 52, (Op.unOp UnOp.not 4 (Operand.tmp 51)), none⟩,
      ⟨some 53, (Op.move (Operand.tmp 52)), none⟩,
      ⟨some 54, (Op.move (Operand.tmp 0)), some (53, false)⟩,
      ⟨some 55, (Op.move (Operand.tmp 11)), some (53, false)⟩,
      ⟨some 56, (Op.indexAddr 45 (Operand.tmp 54) (Operand.tmp 55)), some (53, false)⟩,
      ⟨some 57, (Op.fieldAddr 40 (Operand.tmp 56) 0), some (53, false)⟩,
      ⟨some 58, (Op.load 22 (Operand.tmp 57)), some (53, false)⟩,
      ⟨some 59, (Op.move (Operand.tmp 13)), some (53, false)⟩,
      ⟨some 60, (Op.call { callee := (Callee.value (Operand.func 97)), args := #[(Operand.tmp 58), (Operand.tmp 59)], argTypes := #[22, 22] }), some (53, false)⟩,
      ⟨some 61, (Op.unOp UnOp.not 4 (Operand.tmp 60)), some (53, false)⟩,
      ⟨some 62, (Op.pick (Operand.tmp 53) (Operand.const (Value.bool true)) (Operand.tmp 61)), none⟩])
    (.cond (Operand.tmp 62)
      (.seq (.reg false [⟨some 63, (Op.build 40 #[]), none⟩,
        ⟨none, (Op.store 40 (Operand.tmp 8) (Operand.tmp 63)), none⟩,
        ⟨some 9, (Op.assign (Operand.const (Value.int IntKind.i64 13))), none⟩])
      .ret)
      .skip)))))
    (.reg false [⟨some 64, (Op.binOp BinOp.add 3 (Operand.tmp 36) (Operand.const (Value.int IntKind.i64 1)) 3), none⟩,
      ⟨some 36, (Op.move (Operand.tmp 64)), none⟩])))))))
  (.seq (.seq (.reg false [⟨some 65, (Op.move (Operand.tmp 0)), none⟩,
    ⟨some 66, (Op.call { callee := (Callee.builtin Builtin.len), args := #[(Operand.tmp 65)], argTypes := #[45] }), none⟩,
    ⟨some 67, (Op.move (Operand.const (Value.int IntKind.i64 0))), none⟩])
  (.block 2 (.loop [0, 1, 2, 3, 8, 10, 66, 67] false
    (.seq (.reg false [⟨some 68, (Op.binOp BinOp.lss 3 (Operand.tmp 67) (Operand.tmp 66) 3), none⟩])
    (.seq (.cond (Operand.tmp 68)
      .skip
      (.exit 2))
    (.seq (.block 3 (.seq (.reg false [⟨some 69, (Op.move (Operand.tmp 67)), none⟩,
      ⟨some 14, (Op.assign (Operand.tmp 69)), none⟩])
    (.seq (.seq (.reg false [⟨some 70, (Op.move (Operand.tmp 0)), none⟩,
      ⟨some 71, (Op.move (Operand.tmp 14)), none⟩,
      ⟨some 72, (Op.indexAddr 45 (Operand.tmp 70) (Operand.tmp 71)), none⟩,
      ⟨some 73, (Op.load 40 (Operand.tmp 72)), none⟩,
      ⟨some 74, (Op.move (Operand.tmp 0)), none⟩,
      ⟨some 75, (Op.move (Operand.tmp 2)), none⟩,
      ⟨some 76, (Op.move (Operand.tmp 3)), none⟩,
      ⟨some 77, (Op.move (Operand.tmp 14)), none⟩,
      ⟨some 78, (Op.call { callee := (Callee.value (Operand.func 67)), args := #[(Operand.tmp 75), (Operand.tmp 76), (Operand.tmp 77)], argTypes := #[22, 22, 3] }), none⟩,
      ⟨some 79, (Op.indexAddr 45 (Operand.tmp 74) (Operand.tmp 78)), none⟩,
      ⟨some 80, (Op.load 40 (Operand.tmp 79)), none⟩,
      ⟨some 81, (Op.call { callee := (Callee.value (Operand.func 39)), args := #[(Operand.tmp 73), (Operand.tmp 80)], argTypes := #[40, 40] }), none⟩,
      ⟨some 82, (Op.unOp UnOp.not 4 (Operand.tmp 81)), none⟩])
    (.cond (Operand.tmp 82)
      (.seq (.reg false [⟨some 83, (Op.build 40 #[]), none⟩,
        ⟨none, (Op.store 40 (Operand.tmp 8) (Operand.tmp 83)), none⟩,
        ⟨some 9, (Op.assign (Operand.const (Value.int IntKind.i64 25))), none⟩])
      .ret)
      .skip))
    (.seq (.reg false [⟨some 85, (Op.move (Operand.tmp 1)), none⟩,
      ⟨some 86, (Op.move (Operand.tmp 2)), none⟩,
      ⟨some 87, (Op.move (Operand.tmp 3)), none⟩,
      ⟨some 88, (Op.move (Operand.tmp 14)), none⟩,
      ⟨some 89, (Op.call { callee := (Callee.value (Operand.func 40)), args := #[(Operand.tmp 85), (Operand.tmp 86), (Operand.tmp 87), (Operand.tmp 88)], argTypes := #[22, 22, 22, 3] }), none⟩,
      ⟨some 84, (Op.move (Operand.tmp 89)), none⟩,
      ⟨some 90, (Op.extract (Operand.tmp 84) 0), none⟩,
      ⟨some 91, (Op.extract (Operand.tmp 84) 1), none⟩,
      ⟨some 15, (Op.assign (Operand.tmp 90)), none⟩,
      ⟨some 16, (Op.assign (Operand.tmp 91)), none⟩])
    (.seq (.reg false [⟨some 92, (Op.move (Operand.tmp 0)), none⟩,
      ⟨some 93, (Op.move (Operand.tmp 14)), none⟩,
      ⟨some 94, (Op.indexAddr 45 (Operand.tmp 92) (Operand.tmp 93)), none⟩,
      ⟨some 95, (Op.fieldAddr 40 (Operand.tmp 94) 1), none⟩,
      ⟨some 96, (Op.load 38 (Operand.tmp 95)), none⟩,
      ⟨some 97, (Op.call { callee := (Callee.builtin Builtin.len), args := #[(Operand.tmp 96)], argTypes := #[38] }), none⟩,
      ⟨some 98, (Op.move (Operand.const (Value.int IntKind.i64 0))), none⟩])
    (.block 4 (.loop [0, 1, 2, 3, 8, 10, 14, 15, 66, 67, 97, 98] false
      (.seq (.reg false [⟨some 99, (Op.binOp BinOp.lss 3 (Operand.tmp 98) (Operand.tmp 97) 3), none⟩])
      (.seq (.cond (Operand.tmp 99)
        .skip
        (.exit 4))
      (.seq (.block 5 (.seq (.reg false [⟨some 100, (Op.move (Operand.tmp 98)), none⟩,
        ⟨some 17, (Op.assign (Operand.tmp 100)), none⟩])
      (.seq (.reg false [⟨some 101, (Op.move (Operand.tmp 0)), none⟩,
        ⟨some 102, (Op.move (Operand.tmp 14)), none⟩,
        ⟨some 103, (Op.indexAddr 45 (Operand.tmp 101) (Operand.tmp 102)), none⟩,
        ⟨some 104, (Op.fieldAddr 40 (Operand.tmp 103) 0), none⟩,
        ⟨some 105, (Op.load 22 (Operand.tmp 104)), none⟩,
        ⟨some 106, (Op.move (Operand.tmp 17)), none⟩,
        ⟨some 107, (Op.call { callee := (Callee.value (Operand.func 41)), args := #[(Operand.tmp 105), (Operand.tmp 106)], argTypes := #[22, 3] }), none⟩,
        ⟨some 18, (Op.assign (Operand.tmp 107)), none⟩])
      (.seq (.seq (.reg false [⟨some 108, (Op.move (Operand.tmp 18)), none⟩,
        ⟨some 109, (Op.call { callee := (Callee.builtin Builtin.len), args := #[(Operand.tmp 108)], argTypes := #[22] }), none⟩,
        ⟨some 110, (Op.move (Operand.const (Value.int IntKind.i64 0))), none⟩])
      (.block 6 (.loop [0, 1, 2, 3, 8, 10, 14, 15, 17, 18, 66, 67, 97, 98, 109, 110] false
        (.seq (.reg false [⟨some 111, (Op.binOp BinOp.lss 3 (Operand.tmp 110) (Operand.tmp 109) 3), none⟩])
        (.seq (.cond (Operand.tmp 111)
          .skip
          (.exit 6))
        (.seq (.block 7 (.seq (.reg false [⟨some 112, (Op.move (Operand.tmp 110)), none⟩,
          ⟨some 19, (Op.assign (Operand.tmp 112)), none⟩])
        (.reg false [⟨some 113, (Op.move (Operand.tmp 18)), none⟩,
          ⟨some 114, (Op.move (Operand.tmp 19)), none⟩,
          ⟨some 115, (Op.move (Operand.tmp 18)), none⟩,
          ⟨some 116, (Op.move (Operand.tmp 19)), none⟩,
          ⟨some 117, (Op.indexAddr 22 (Operand.tmp 115) (Operand.tmp 116)), none⟩,
          ⟨some 118, (Op.load 3 (Operand.tmp 117)), none⟩,
          ⟨some 119, (Op.move (Operand.tmp 15)), none⟩,
          ⟨some 120, (Op.move (Operand.tmp 19)), none⟩,
          ⟨some 121, (Op.indexAddr 22 (Operand.tmp 119) (Operand.tmp 120)), none⟩,
          ⟨some 122, (Op.load 3 (Operand.tmp 121)), none⟩,
          ⟨some 123, (Op.binOp BinOp.add 3 (Operand.tmp 118) (Operand.tmp 122) 3), none⟩,
          ⟨some 124, (Op.indexAddr 22 (Operand.tmp 113) (Operand.tmp 114)), none⟩,
          ⟨none, (Op.store 3 (Operand.tmp 124) (Operand.tmp 123)), none⟩])))
        (.reg false [⟨some 125, (Op.binOp BinOp.add 3 (Operand.tmp 110) (Operand.const (Value.int IntKind.i64 1)) 3), none⟩,
          ⟨some 110, (Op.move (Operand.tmp 125)), none⟩])))))))
      (.reg false [⟨some 126, (Op.fieldAddr 40 (Operand.tmp 10) 1), none⟩,
        ⟨some 127, (Op.load 38 (Operand.tmp 126)), none⟩,
        ⟨some 128, (Op.move (Operand.tmp 1)), none⟩,
        ⟨some 129, (Op.move (Operand.tmp 18)), none⟩,
        ⟨some 130, (Op.call { callee := (Callee.value (Operand.func 42)), args := #[(Operand.tmp 128), (Operand.tmp 129)], argTypes := #[22, 22] }), none⟩,
        ⟨some 131, (Op.move (Operand.tmp 0)), none⟩,
        ⟨some 132, (Op.move (Operand.tmp 14)), none⟩,
        ⟨some 133, (Op.indexAddr 45 (Operand.tmp 131) (Operand.tmp 132)), none⟩,
        ⟨some 134, (Op.fieldAddr 40 (Operand.tmp 133) 1), none⟩,
        ⟨some 135, (Op.load 38 (Operand.tmp 134)), none⟩,
        ⟨some 136, (Op.move (Operand.tmp 17)), none⟩,
        ⟨some 137, (Op.indexAddr 38 (Operand.tmp 135) (Operand.tmp 136)), none⟩,
        ⟨some 138, (Op.load 2 (Operand.tmp 137)), none⟩,
        ⟨some 139, (Op.indexAddr 38 (Operand.tmp 127) (Operand.tmp 130)), none⟩,
        ⟨none, (Op.store 2 (Operand.tmp 139) (Operand.tmp 138)), none⟩])))))
      (.reg false [⟨some 140, (Op.binOp BinOp.add 3 (Operand.tmp 98) (Operand.const (Value.int IntKind.i64 1)) 3), none⟩,
        ⟨some 98, (Op.move (Operand.tmp 140)), none⟩])))))))))))
    (.reg false [⟨some 141, (Op.binOp BinOp.add 3 (Operand.tmp 67) (Operand.const (Value.int IntKind.i64 1)) 3), none⟩,
      ⟨some 67, (Op.move (Operand.tmp 141)), none⟩])))))))
  (.seq (.reg false [⟨some 142, (Op.load 40 (Operand.tmp 10)), none⟩,
    ⟨none, (Op.store 40 (Operand.tmp 8) (Operand.tmp 142)), none⟩,
    ⟨some 9, (Op.assign (Operand.const (Value.int IntKind.i64 0))), none⟩])
  .ret)))))))
noncomputable def b86 : Code := Try.f86.body.getD .skip
theorem hb86 : Try.f86.body = some b86 := by kernel_rfl
theorem sh86 : shortC A86 b86 = c86 := by kernel_rfl
def rs86 : List ResultVar := [(ResultVar.cell 8 40), (ResultVar.tmp 9)]
theorem hr86 : Try.f86.results.toList = rs86 := by kernel_rfl
/-! parquetry/parquetrylaw17.joins (4 parameters; calls 38 parquetry/split.Join, 39 parquetry/parquetryref1.Same, 86 parquetry/parquetryref14.Join) -/
def A35 : Ann := { drop := fun i => false }
noncomputable def c35 : Cc :=
  (.seq (.reg false [⟨some 8, (Op.assign (Operand.const (Value.bool false))), none⟩])
  (.seq (.reg false [⟨some 14, (Op.move (Operand.tmp 0)), none⟩,
    ⟨some 15, (Op.move (Operand.tmp 1)), none⟩,
    ⟨some 16, (Op.move (Operand.tmp 2)), none⟩,
    ⟨some 17, (Op.move (Operand.tmp 3)), none⟩,
    ⟨some 18, (Op.call { callee := (Callee.value (Operand.func 38)), args := #[(Operand.tmp 14), (Operand.tmp 15), (Operand.tmp 16), (Operand.tmp 17)], argTypes := #[45, 22, 22, 22] }), none⟩,
    ⟨some 13, (Op.move (Operand.tmp 18)), none⟩,
    ⟨some 19, (Op.extract (Operand.tmp 13) 0), none⟩,
    ⟨some 20, (Op.extract (Operand.tmp 13) 1), none⟩,
    ⟨some 9, (Op.alloc 40), none⟩,
    ⟨none, (Op.store 40 (Operand.tmp 9) (Operand.tmp 19)), none⟩,
    ⟨some 10, (Op.assign (Operand.tmp 20)), none⟩])
  (.seq (.reg false [⟨some 22, (Op.move (Operand.tmp 0)), none⟩,
    ⟨some 23, (Op.move (Operand.tmp 1)), none⟩,
    ⟨some 24, (Op.move (Operand.tmp 2)), none⟩,
    ⟨some 25, (Op.move (Operand.tmp 3)), none⟩,
    ⟨some 26, (Op.call { callee := (Callee.value (Operand.func 86)), args := #[(Operand.tmp 22), (Operand.tmp 23), (Operand.tmp 24), (Operand.tmp 25)], argTypes := #[45, 22, 22, 22] }), none⟩,
    ⟨some 21, (Op.move (Operand.tmp 26)), none⟩,
    ⟨some 27, (Op.extract (Operand.tmp 21) 0), none⟩,
    ⟨some 28, (Op.extract (Operand.tmp 21) 1), none⟩,
    ⟨some 11, (Op.alloc 40), none⟩,
    ⟨none, (Op.store 40 (Operand.tmp 11) (Operand.tmp 27)), none⟩,
    ⟨some 12, (Op.assign (Operand.tmp 28)), none⟩])
  (.seq (.reg false [⟨some 29, (Op.move (Operand.tmp 10)), none⟩,
    ⟨some 30, (Op.move (Operand.tmp 12)), none⟩,
    ⟨some 31, (Op.binOp BinOp.eql 46 (Operand.tmp 29) (Operand.tmp 30) 46), none⟩,
    ⟨some 32, (Op.move (Operand.tmp 31)), none⟩,
    ⟨some 33, (Op.load 40 (Operand.tmp 9)), some (32, true)⟩,
    ⟨some 34, (Op.load 40 (Operand.tmp 11)), some (32, true)⟩,
    ⟨some 35, (Op.call { callee := (Callee.value (Operand.func 39)), args := #[(Operand.tmp 33), (Operand.tmp 34)], argTypes := #[40, 40] }), some (32, true)⟩,
    ⟨some 36, (Op.pick (Operand.tmp 32) (Operand.tmp 35) (Operand.const (Value.bool false))), none⟩,
    ⟨some 8, (Op.assign (Operand.tmp 36)), none⟩])
  .ret))))
noncomputable def b35 : Code := Try.f35.body.getD .skip
theorem hb35 : Try.f35.body = some b35 := by kernel_rfl
theorem sh35 : shortC A35 b35 = c35 := by kernel_rfl
def rs35 : List ResultVar := [(ResultVar.tmp 8)]
theorem hr35 : Try.f35.results.toList = rs35 := by kernel_rfl
/-! parquetry/parquetrylaw17.SplitTells (9 parameters; calls 31 parquetry/parquetrylaw17.made, 33 parquetry/parquetrylaw17.same, 34 parquetry/parquetryref14.All, 35 parquetry/parquetrylaw17.joins, 36 parquetry/parquetrylaw17.known) -/
def A9 : Ann := { recs := fun i => if i = 8 then [(0, 8), (0, 14), (1, 8), (1, 14), (2, 8), (2, 14), (3, 8), (3, 14), (4, 8), (4, 14), (5, 8), (5, 14), (6, 8), (6, 14), (8, 7), (9, 7), (10, 7), (11, 7), (12, 7)] else [], drop := fun i => false }
noncomputable def b9 : Code := Try.f9.body.getD .skip
/-! parquetry/parquetrylaw17.tape (1 parameters; calls none) -/
def A32 : Ann := { live := fun i => if i = 3 then [0, 3, 4] else [], drop := fun i => false }
noncomputable def c32 : Cc :=
  (.seq (.reg false [⟨some 2, (Op.assign (Operand.const (Value.slice none 0 0))), none⟩])
  (.seq (.reg false [⟨some 3, (Op.assign (Operand.const (Value.slice none 0 0))), none⟩])
  (.seq (.seq (.reg false [⟨some 4, (Op.assign (Operand.const (Value.int IntKind.i64 0))), none⟩])
  (.block 0 (.loop [0, 3, 4] false
    (.seq (.seq (.reg false [⟨some 5, (Op.move (Operand.tmp 4)), none⟩,
      ⟨some 6, (Op.binOp BinOp.lss 3 (Operand.tmp 5) (Operand.const (Value.int IntKind.i64 90)) 3), none⟩])
    (.cond (Operand.tmp 6)
      .skip
      (.exit 0)))
    (.seq (.block 1 (.reg false [⟨some 9, (Op.move (Operand.tmp 3)), none⟩,
      ⟨some 10, (Op.move (Operand.tmp 4)), none⟩,
      ⟨some 11, (Op.move (Operand.tmp 4)), none⟩,
      ⟨some 12, (Op.binOp BinOp.mul 3 (Operand.tmp 10) (Operand.tmp 11) 3), none⟩,
      ⟨some 13, (Op.binOp BinOp.mul 3 (Operand.tmp 12) (Operand.const (Value.int IntKind.i64 7)) 3), none⟩,
      ⟨some 14, (Op.move (Operand.tmp 0)), none⟩,
      ⟨some 15, (Op.binOp BinOp.mul 3 (Operand.tmp 14) (Operand.const (Value.int IntKind.i64 41)) 3), none⟩,
      ⟨some 16, (Op.binOp BinOp.add 3 (Operand.tmp 13) (Operand.tmp 15) 3), none⟩,
      ⟨some 17, (Op.move (Operand.tmp 4)), none⟩,
      ⟨some 18, (Op.move (Operand.tmp 0)), none⟩,
      ⟨some 19, (Op.binOp BinOp.mul 3 (Operand.tmp 17) (Operand.tmp 18) 3), none⟩,
      ⟨some 20, (Op.binOp BinOp.add 3 (Operand.tmp 16) (Operand.tmp 19) 3), none⟩,
      ⟨some 21, (Op.binOp BinOp.rem 3 (Operand.tmp 20) (Operand.const (Value.int IntKind.i64 211)) 3), none⟩,
      ⟨some 22, (Op.buildSlice 22 1 #[(0, (Operand.tmp 21))]), none⟩,
      ⟨some 23, (Op.call { callee := (Callee.builtin Builtin.append), args := #[(Operand.tmp 9), (Operand.tmp 22)], argTypes := #[22, 22] }), none⟩,
      ⟨some 3, (Op.assign (Operand.tmp 23)), none⟩]))
    (.reg false [⟨some 7, (Op.move (Operand.tmp 4)), none⟩,
      ⟨some 8, (Op.binOp BinOp.add 3 (Operand.tmp 7) (Operand.const (Value.int IntKind.i64 1)) 3), none⟩,
      ⟨some 4, (Op.assign (Operand.tmp 8)), none⟩]))))))
  (.seq (.reg false [⟨some 24, (Op.move (Operand.tmp 3)), none⟩,
    ⟨some 2, (Op.assign (Operand.tmp 24)), none⟩])
  .ret))))
noncomputable def b32 : Code := Try.f32.body.getD .skip
theorem hb32 : Try.f32.body = some b32 := by kernel_rfl
theorem sh32 : shortC A32 b32 = c32 := by kernel_rfl
def rs32 : List ResultVar := [(ResultVar.tmp 2)]
theorem hr32 : Try.f32.results.toList = rs32 := by kernel_rfl
/- Walks: the document's Join. -/
/-- A tensor of a list that came in. -/
theorem ts_at {H : Hp} {v : AV} {L : List TS} (h : tensL H v = some L) (j : Nat) (hj : j < L.length) : ∃ b ver o x y, aidx T 45 v (.int .i64 j) = some (.ptr b ver o) ∧ (∀ Hx, Fm ⟨H, []⟩ Hx → aload T 40 (.ptr b ver o) Hx = some (.agg [x, y])) ∧ (∀ Hx, Fm ⟨H, []⟩ Hx → aload T 22 (.ptr b ver o) Hx = some x) ∧ (∀ Hx, Fm ⟨H, []⟩ Hx → aload T 38 (.ptr b ver (o + 1)) Hx = some y) ∧ ints H x = some (tth L j).1 ∧ ints H y = some (tth L j).2 := by
  obtain ⟨_, _, h3⟩ := tensL_at h
  obtain ⟨q, x, y, e1, e2, e3, b, ver, o, rfl, e4⟩ := h3 j hj
  obtain ⟨_, _, e, hx, hy⟩ := tens_some e3
  cases e
  have e5 : aload T 22 (.ptr b ver o) H = some x := by
    simp only [aload, T40, T22] at e2 ⊢
    cases hk : H.at b ver with
    | none => rw [hk] at e2; cases e2
    | some k =>
      rw [hk] at e2
      simp only at e2 ⊢
      split at e2
      · simp only [Option.some.injEq, AV.agg.injEq] at e2
        have := congrArg (fun l => l[0]?) e2
        simp [List.getElem?_take, List.getElem?_drop] at this
        exact this
      · cases e2
  exact ⟨b, ver, o, x, y, e1, fun Hx hF => aload_ext hF.pre' e2, fun Hx hF => aload_ext hF.pre' e5, fun Hx hF => aload_ext hF.pre' e4, hx, hy⟩
noncomputable def joinR (L : List TS) (s sz sp : List Int) : Tr :=
  if mayS s sz sp = true then
    (if (L.length : Int) = devs sz then
      (if allN (ok1 L s sz sp) L.length = true then
        (if allN (ok2 L sz sp) L.length = true then okTn (trC s) (trS (joinD L s sz sp)) else zeroT 25)
      else zeroT 13)
    else zeroT 13)
  else zeroT 1
noncomputable def F86 (args : List AV) (H : Hp) : Option (AV × Hp) := match args with
  | [l, s, a, b] => (tensL H l).bind fun L => (ints H s).bind fun sh => (ints H a).bind fun sz => (ints H b).map fun sp => mk (joinR L sh sz sp) H
  | _ => none
set_option maxHeartbeats 8000000 in
theorem snd86 : Sound Try.prog 86 (FSem.eff F86).run := by
  refine sound_of hT (EOK_cons snd20 (EOK_cons snd39 (EOK_cons snd40 (EOK_cons snd41 (EOK_cons snd42 (EOK_cons snd67 (EOK_cons snd70 (EOK_cons snd84 (EOK_cons snd85 (EOK_cons snd97 (EOK_nil _))))))))))) mixed A86 Try.func86 hb86 (by kernel_rfl) (by kernel_rfl) (by kernel_rfl) (by kernel_rfl) sh86 4 (by kernel_rfl) rs86 hr86 ?_
  intro args H r H' hw h
  have hv : F86 args H = some (r, H') := h
  clear h
  unfold F86 at hv
  split at hv
  rotate_left
  · cases hv
  rename_i lv sv av bv
  obtain ⟨L, hL, hv⟩ := Option.bind_eq_some_iff.1 hv
  obtain ⟨s, hs, hv⟩ := Option.bind_eq_some_iff.1 hv
  obtain ⟨sz, hsz, hv⟩ := Option.bind_eq_some_iff.1 hv
  obtain ⟨sp, hsp, hv⟩ := Option.map_eq_some_iff.1 hv
  have hvv := Hide.mk hv
  clear hv
  have zs := Fz.of hs
  have za := Fz.of hsz
  have zb := Fz.of hsp
  obtain ⟨hlL, hLb, _⟩ := tensL_at hL
  have e85 : ∀ Hx, Fm ⟨H, []⟩ Hx → F85 [sv, av, bv] Hx = some (.bool (mayS s sz sp)) := fun Hx hF => by simp [zs.out _ hF, za.out _ hF, zb.out _ hF]
  have e20 : ∀ Hx, Fm ⟨H, []⟩ Hx → F20 [av] Hx = some (.int .i64 (devs sz)) := fun Hx hF => by simp [za.out _ hF, rDevs_eq]
  have e40 : ∀ (dd : Int) Hx, Fm ⟨H, []⟩ Hx → F40 [sv, av, bv, .int .i64 dd] Hx = some (mk (tileTr s sz sp dd) Hx) := fun dd Hx hF => F40_at (zs.out _ hF) (za.out _ hF) (zb.out _ hF) dd
  have e67 : ∀ (dd : Int) Hx, Fm ⟨H, []⟩ Hx → F67 [av, bv, .int .i64 dd] Hx = some (.int .i64 (firstL sz sp dd)) := fun dd Hx hF => by simp [za.out _ hF, zb.out _ hF]
  refine ⟨rfl, go (zStart (SL.nil hw []) ?_)⟩
  unfold c86
  simp only [argSl]
  have fin : ∀ e : Int, joinR L s sz sp = zeroT e → mk (zeroT e) H = (r, H') := fun e h => by rw [← h]; exact hvv.out
  rcases h1 : mayS s sz sp with _ | _
  · rw [h1] at e85
    repeat' (first | apply zSeq | apply zReg | apply zSeqN | apply zSeqR | apply zSkip | apply zRet | apply zNil | apply zBlock | apply zExit | apply zBlkN | apply zBlkR | apply zBlkE | apply zSeqE | apply zLoopR | apply zLoopE | refine yYes' ?_ | refine yNo' ?_ | refine yNoU' ?_ | refine yLd' ?_ | refine yLdI' ?_ | refine yStS' ?_ | refine yStF' ?_ | refine ySt' ?_ | refine yBS' fun _ _ => ?_ | refine yAlloc' fun _ _ => ?_ | refine yBox' fun _ _ => ?_ | refine yOp' ?_ | refine yIfT ?_ | refine yIfF ?_ | refine yIf ?_ ?_ | refine ySplit' ?_ ?_ | refine yIfQ ?_ ?_ | refine ySplitQ' ?_ ?_ | refine yBlkX ?_ | intro _)
    exact zFin (vs := [.agg [.nilS, .nilS], .int .i64 1]) (t := zeroT 1) (by simp) (fun H1 hS => xres2c rfl rfl (hS.ld (by repeat (first | exact Fd.here rfl | apply Fd.there)) rfl (by simp [ldT, lvs]) rfl)) ⟨_, Tk.tup (.cons (.agg (.cons .leaf (.cons .leaf .nil))) (.cons .leaf .nil))⟩ (okT_zero _ _) (fin 1 (by simp [joinR, h1]))
  rw [h1] at e85
  by_cases h4 : devs sz = L.length
  rotate_left
  · have h4' : ¬ (L.length : Int) = devs sz := fun e => h4 e.symm
    repeat' (first | apply zSeq | apply zReg | apply zSeqN | apply zSeqR | apply zSkip | apply zRet | apply zNil | apply zBlock | apply zExit | apply zBlkN | apply zBlkR | apply zBlkE | apply zSeqE | apply zLoopR | apply zLoopE | refine yYes' ?_ | refine yNo' ?_ | refine yNoU' ?_ | refine yLd' ?_ | refine yLdI' ?_ | refine yStS' ?_ | refine yStF' ?_ | refine ySt' ?_ | refine yBS' fun _ _ => ?_ | refine yAlloc' fun _ _ => ?_ | refine yBox' fun _ _ => ?_ | refine yOp' ?_ | refine yIfT ?_ | refine yIfF ?_ | refine yIf ?_ ?_ | refine ySplit' ?_ ?_ | refine yIfQ ?_ ?_ | refine ySplitQ' ?_ ?_ | refine yBlkX ?_ | intro _)
    exact zFin (vs := [.agg [.nilS, .nilS], .int .i64 13]) (t := zeroT 13) (by simp) (fun H1 hS => xres2c rfl rfl (hS.ld (by repeat (first | exact Fd.here rfl | apply Fd.there)) rfl (by simp [ldT, lvs]) rfl)) ⟨_, Tk.tup (.cons (.agg (.cons .leaf (.cons .leaf .nil))) (.cons .leaf .nil))⟩ (okT_zero _ _) (fin 13 (by simp [joinR, h1, h4']))
  rw [h4] at e20
  have hmay : shapeOK s = true ∧ meshOK sz = true ∧ specOK sz sp s.length = true := by simpa [mayS, Bool.and_eq_true, and_assoc] using h1
  obtain ⟨h5, h6, h7⟩ := hmay
  have hsplen : sp.length = s.length := by have := (specOK_lt h7).1; omega
  have hspOK : specOK sz sp sp.length = true := by rw [hsplen]; exact h7
  have hs4 := (shapeOK_rng h5).1
  have hdv := devs_le sz
  have hsz1 := sizeOf_le s
  have hsz0 := sizeOf_nonneg s
  obtain ⟨N, hN⟩ : ∃ N : Nat, sizeOf s = N := ⟨(sizeOf s).toNat, by omega⟩
  have e70 : ∀ Hx, Fm ⟨H, []⟩ Hx → F70 [sv, .int .i64 0] Hx = some (mk (.agg [trC s, trS (List.replicate N 0)]) Hx) := by
    intro Hx hF
    show (ints Hx sv).bind _ = _
    rw [zs.out _ hF, Option.bind_some, if_pos (by omega), hN, Int.toNat_natCast]
  have hcut : ∀ d : Nat, d < L.length → mayCut s sz sp d := fun d hd => ⟨h5, h7, Int.natCast_nonneg d, by omega⟩
  repeat' (first | apply zSeq | apply zReg | apply zSeqN | apply zSeqR | apply zSkip | apply zRet | apply zNil | apply zBlock | apply zExit | apply zBlkN | apply zBlkR | apply zBlkE | apply zSeqE | apply zLoopR | apply zLoopE | refine yYes' ?_ | refine yNo' ?_ | refine yNoU' ?_ | refine yLd' ?_ | refine yLdI' ?_ | refine yStS' ?_ | refine yStF' ?_ | refine ySt' ?_ | refine yBS' fun _ _ => ?_ | refine yAlloc' fun _ _ => ?_ | refine yBox' fun _ _ => ?_ | refine yOp' ?_ | refine yIfT ?_ | refine yIfF ?_ | refine yIf ?_ ?_ | refine ySplit' ?_ ?_ | refine yIfQ ?_ ?_ | refine ySplitQ' ?_ ?_ | refine yBlkX ?_ | intro _)
  rename_i b8 v8
  refine zCall' (F := F70) (args := [sv, .int .i64 0]) rfl rfl rfl (fun Hx hS hF => e70 Hx hF) fun v => ?_
  refine zAgg2' fun shv dav h => ?_
  subst h
  refine zNum' .here (numsT_C (by omega)) fun os _ _ => ?_
  refine zNum' (.there .here) (numsT_S (by simp; omega)) fun od ld idv => ?_
  simp only [← alen38, ← aidx38, List.length_replicate] at ld idv
  repeat' (first | apply zSeq | apply zReg | apply zSeqN | apply zSeqR | apply zSkip | apply zRet | apply zNil | apply zBlock | apply zExit | apply zBlkN | apply zBlkR | apply zBlkE | apply zSeqE | apply zLoopR | apply zLoopE | refine yYes' ?_ | refine yNo' ?_ | refine yNoU' ?_ | refine yLd' ?_ | refine yLdI' ?_ | refine yStS' ?_ | refine yStF' ?_ | refine ySt' ?_ | refine yBS' fun _ _ => ?_ | refine yAlloc' fun _ _ => ?_ | refine yBox' fun _ _ => ?_ | refine yOp' ?_ | refine yIfT ?_ | refine yIfF ?_ | refine yIf ?_ ?_ | refine ySplit' ?_ ?_ | refine yIfQ ?_ ?_ | refine ySplitQ' ?_ ?_ | refine yBlkX ?_ | intro _)
  rename_i b10 v10
  -- are they right?
  refine zLoop (fun m s1 LL => ∃ d : Nat, m = L.length - d ∧ d ≤ L.length ∧ get s1 0 = lv ∧ get s1 1 = sv ∧ get s1 2 = av ∧ get s1 3 = bv ∧ get s1 8 = .ptr b8 v8 0 ∧ get s1 10 = .ptr b10 v10 0 ∧ get s1 35 = .int .i64 L.length ∧ get s1 36 = .int .i64 d ∧ (∀ j, j < d → ok1 L s sz sp j = true) ∧ LL = [(.ptr b10 v10 0, .bx [.at shv, .at dav]), (shv, trC s), (dav, trS (List.replicate N 0)), (.ptr b8 v8 0, .bx [.at .nilS, .at .nilS])]) L.length ⟨0, rfl, Nat.zero_le _, rfl, rfl, rfl, rfl, rfl, rfl, rfl, rfl, by intro j h; omega, rfl⟩ ?_
  rintro m s1 LL ⟨d, hmm, hd, g1, g2, g3, g4, g5, g6, g7, g8, hok, rfl⟩
  simp only [cut_cons, cut_nil, g1, g2, g3, g4, g5, g6, g7, g8]
  clear g1 g2 g3 g4 g5 g6 g7 g8
  have hwd : w ((d : Int) + 1) = ((d + 1 : Nat) : Int) := w_id (by omega)
  replace hok := Hide.mk hok
  by_cases hdn : d < L.length
  · have hdn' : (d : Int) < L.length := by omega
    obtain ⟨qb, qv, qo, x, y, i1, l1, l2, _, hx, hy⟩ := ts_at hL d hdn
    have zx := Fz.of hx
    have e84 : ∀ Hx, Fm ⟨H, []⟩ Hx → F91 [.agg [x, y]] Hx = some (.bool (tOK (tth L d))) := fun Hx hF => by
      have := tens_of (ints_ext hF.pre' hx) (ints_ext hF.pre' hy)
      simp [F91, this]
    have hzl := (part_rng (hcut d hdn)).2.1
    have hfl := (part_rng (hcut d hdn)).1
    have hokd : ok1 L s sz sp d = (tOK (tth L d) && sameL (tth L d).1 (sizeL s sz sp d)) := rfl
    have hbad : ok1 L s sz sp d = false → joinR L s sz sp = zeroT 13 := by
      intro h
      have : ¬ allN (ok1 L s sz sp) L.length = true := by rw [allN_iff]; intro hh; rw [hh d hdn] at h; cases h
      simp [joinR, h1, h4, this]
    have e40d := e40 d
    unfold tileTr at e40d
    replace hokd := Hide.mk hokd
    replace hbad := Hide.mk hbad
    repeat' (first | apply zSeq | apply zReg | apply zSeqN | apply zSeqR | apply zSkip | apply zRet | apply zNil | apply zBlock | apply zExit | apply zBlkN | apply zBlkR | apply zBlkE | apply zSeqE | apply zLoopR | apply zLoopE | refine yYes' ?_ | refine yNo' ?_ | refine yNoU' ?_ | refine yLd' ?_ | refine yLdI' ?_ | refine yStS' ?_ | refine yStF' ?_ | refine ySt' ?_ | refine yBS' fun _ _ => ?_ | refine yAlloc' fun _ _ => ?_ | refine yBox' fun _ _ => ?_ | refine yOp' ?_ | refine yIfT ?_ | refine yIfF ?_ | refine yIf ?_ ?_ | refine ySplit' ?_ ?_ | refine yIfQ ?_ ?_ | refine ySplitQ' ?_ ?_ | refine yBlkX ?_ | intro _)
    refine zCall' (F := F40) (args := [sv, av, bv, .int .i64 d]) rfl rfl rfl (fun Hx hS hF => e40d Hx hF) fun v => ?_
    refine zTup2' fun fv zv h => ?_
    subst h
    have f97 : ∀ Hx, SL ⟨H, []⟩ [(fv, trS (fromL s sz sp d)), (zv, trS (sizeL s sz sp d)), (.ptr b10 v10 0, .bx [.at shv, .at dav]), (shv, trC s), (dav, trS (List.replicate N 0)), (.ptr b8 v8 0, .bx [.at .nilS, .at .nilS])] Hx → F97 [x, zv] Hx = some (.bool (sameL (tth L d).1 (sizeL s sz sp d))) := by
      intro Hx hS
      have g1 := hS.ints 1 rfl (numsT_S (l := sizeL s sz sp d) (by omega))
      show (ints Hx x).bind _ = _
      rw [zx.out _ hS.fm, Option.bind_some, g1, Option.map_some]
    rcases ht : tOK (tth L d) with _ | _
    · rw [ht] at e84
      repeat' (first | apply zSeq | apply zReg | apply zSeqN | apply zSeqR | apply zSkip | apply zRet | apply zNil | apply zBlock | apply zExit | apply zBlkN | apply zBlkR | apply zBlkE | apply zSeqE | apply zLoopR | apply zLoopE | refine yYes' ?_ | refine yNo' ?_ | refine yNoU' ?_ | refine yLd' ?_ | refine yLdI' ?_ | refine yStS' ?_ | refine yStF' ?_ | refine ySt' ?_ | refine yBS' fun _ _ => ?_ | refine yAlloc' fun _ _ => ?_ | refine yBox' fun _ _ => ?_ | refine yOp' ?_ | refine yIfT ?_ | refine yIfF ?_ | refine yIf ?_ ?_ | refine ySplit' ?_ ?_ | refine yIfQ ?_ ?_ | refine ySplitQ' ?_ ?_ | refine yBlkX ?_ | intro _)
      exact zFin (vs := [.agg [.nilS, .nilS], .int .i64 13]) (t := zeroT 13) (by simp) (fun H1 hS => xres2c rfl rfl (hS.ld (by repeat (first | exact Fd.here rfl | apply Fd.there)) rfl (by simp [ldT, lvs]) rfl)) ⟨_, Tk.tup (.cons (.agg (.cons .leaf (.cons .leaf .nil))) (.cons .leaf .nil))⟩ (okT_zero _ _) (fin 13 (hbad.out (by rw [hokd.out, ht]; rfl)))
    rw [ht] at e84
    rcases hsm : sameL (tth L d).1 (sizeL s sz sp d) with _ | _
    · rw [hsm] at f97
      repeat' (first | apply zSeq | apply zReg | apply zSeqN | apply zSeqR | apply zSkip | apply zRet | apply zNil | apply zBlock | apply zExit | apply zBlkN | apply zBlkR | apply zBlkE | apply zSeqE | apply zLoopR | apply zLoopE | refine yYes' ?_ | refine yNo' ?_ | refine yNoU' ?_ | refine yLd' ?_ | refine yLdI' ?_ | refine yStS' ?_ | refine yStF' ?_ | refine ySt' ?_ | refine yBS' fun _ _ => ?_ | refine yAlloc' fun _ _ => ?_ | refine yBox' fun _ _ => ?_ | refine yOp' ?_ | refine yIfT ?_ | refine yIfF ?_ | refine yIf ?_ ?_ | refine ySplit' ?_ ?_ | refine yIfQ ?_ ?_ | refine ySplitQ' ?_ ?_ | refine yBlkX ?_ | intro _)
      exact zFin (vs := [.agg [.nilS, .nilS], .int .i64 13]) (t := zeroT 13) (by simp) (fun H1 hS => xres2c rfl rfl (hS.ld (by repeat (first | exact Fd.here rfl | apply Fd.there)) rfl (by simp [ldT, lvs]) rfl)) ⟨_, Tk.tup (.cons (.agg (.cons .leaf (.cons .leaf .nil))) (.cons .leaf .nil))⟩ (okT_zero _ _) (fin 13 (hbad.out (by rw [hokd.out, ht, hsm]; rfl)))
    · rw [hsm] at f97
      repeat' (first | apply zSeq | apply zReg | apply zSeqN | apply zSeqR | apply zSkip | apply zRet | apply zNil | apply zBlock | apply zExit | apply zBlkN | apply zBlkR | apply zBlkE | apply zSeqE | apply zLoopR | apply zLoopE | refine yYes' ?_ | refine yNo' ?_ | refine yNoU' ?_ | refine yLd' ?_ | refine yLdI' ?_ | refine yStS' ?_ | refine yStF' ?_ | refine ySt' ?_ | refine yBS' fun _ _ => ?_ | refine yAlloc' fun _ _ => ?_ | refine yBox' fun _ _ => ?_ | refine yOp' ?_ | refine yIfT ?_ | refine yIfF ?_ | refine yIf ?_ ?_ | refine ySplit' ?_ ?_ | refine yIfQ ?_ ?_ | refine ySplitQ' ?_ ?_ | refine yBlkX ?_ | intro _)
      refine zDrop (zDrop (zLoopN (L.length - (d + 1)) (by omega) ⟨d + 1, rfl, by omega, rfl, rfl, rfl, rfl, rfl, rfl, rfl, rfl, ?_, rfl⟩))
      intro j hj
      by_cases hjd : j = d
      · subst hjd; rw [hokd.out, ht, hsm]; rfl
      · exact hok.out j (by omega)
  have hdn' : ¬ (d : Int) < L.length := by omega
  have hall : ∀ j, j < L.length → ok1 L s sz sp j = true := fun j hj => hok.out j (by omega)
  have hall1 : allN (ok1 L s sz sp) L.length = true := (allN_iff _ _).2 hall
  clear hok hmm hd hwd
  replace hall := Hide.mk hall
  replace hall1 := Hide.mk hall1
  repeat' (first | apply zSeq | apply zReg | apply zSeqN | apply zSeqR | apply zSkip | apply zRet | apply zNil | apply zBlock | apply zExit | apply zBlkN | apply zBlkR | apply zBlkE | apply zSeqE | apply zLoopR | apply zLoopE | refine yYes' ?_ | refine yNo' ?_ | refine yNoU' ?_ | refine yLd' ?_ | refine yLdI' ?_ | refine yStS' ?_ | refine yStF' ?_ | refine ySt' ?_ | refine yBS' fun _ _ => ?_ | refine yAlloc' fun _ _ => ?_ | refine yBox' fun _ _ => ?_ | refine yOp' ?_ | refine yIfT ?_ | refine yIfF ?_ | refine yIf ?_ ?_ | refine ySplit' ?_ ?_ | refine yIfQ ?_ ?_ | refine ySplitQ' ?_ ?_ | refine yBlkX ?_ | intro _)
  clear hdn hdn'
  -- are copies the same? they are written
  have hjl : ∀ g, (ja L s sz sp g (List.replicate N 0)).length = N := fun g => by rw [ja_len]; simp
  refine zLoop (fun m s1 LL => ∃ g : Nat, m = L.length - g ∧ g ≤ L.length ∧ get s1 0 = lv ∧ get s1 1 = sv ∧ get s1 2 = av ∧ get s1 3 = bv ∧ get s1 8 = .ptr b8 v8 0 ∧ get s1 10 = .ptr b10 v10 0 ∧ get s1 66 = .int .i64 L.length ∧ get s1 67 = .int .i64 g ∧ (∀ j, j < g → ok2 L sz sp j = true) ∧ LL = [(.ptr b10 v10 0, .bx [.at shv, .at dav]), (shv, trC s), (dav, trS (ja L s sz sp g (List.replicate N 0))), (.ptr b8 v8 0, .bx [.at .nilS, .at .nilS])]) L.length ⟨0, rfl, Nat.zero_le _, rfl, rfl, rfl, rfl, rfl, rfl, rfl, rfl, by intro j h; omega, rfl⟩ ?_
  rintro m1 s1 LL ⟨g, hmm, hg, g1, g2, g3, g4, g5, g6, g7, g8, hok, rfl⟩
  simp only [cut_cons, cut_nil, g1, g2, g3, g4, g5, g6, g7, g8]
  clear g1 g2 g3 g4 g5 g6 g7 g8
  have hwg : w ((g : Int) + 1) = ((g + 1 : Nat) : Int) := w_id (by omega)
  replace hok := Hide.mk hok
  by_cases hgn : g < L.length
  · have hgn' : (g : Int) < L.length := by omega
    obtain ⟨qb, qv, qo, x, y, i1, l1, l2, l3, hx, hy⟩ := ts_at hL g hgn
    obtain ⟨hf0, hf1⟩ := first_rng hspOK (Int.natCast_nonneg g) (by omega)
    obtain ⟨f, hf⟩ : ∃ f : Nat, firstL sz sp g = f := ⟨(firstL sz sp g).toNat, by omega⟩
    obtain ⟨rb, rv, ro, x', y', i2, k1, _, _, hx', hy'⟩ := ts_at hL f (by omega)
    have zx := Fz.of hx
    have zy := Fz.of hy
    have hly := alenS_ints hy
    have hiy := aidxS_ints hy .i64
    simp only [← alen38, ← aidx38] at hly hiy
    have e67g := e67 g
    rw [hf] at e67g
    have e39 : ∀ Hx, Fm ⟨H, []⟩ Hx → F39 [.agg [x, y], .agg [x', y']] Hx = some (.bool (sameT (tth L g) (tth L f))) := fun Hx hF => by
      have a1 := tens_of (ints_ext hF.pre' hx) (ints_ext hF.pre' hy)
      have a2 := tens_of (ints_ext hF.pre' hx') (ints_ext hF.pre' hy')
      simp [F39, a1, a2]
    have hokg : ok2 L sz sp g = sameT (tth L g) (tth L f) := by simp [ok2, hf]
    have hfb : f < L.length := by omega
    have hfb' : (f : Int) < L.length := by omega
    have hcg := hcut g hgn
    obtain ⟨hfl, hzl, hrng⟩ := part_rng hcg
    have hshp := part_shape hcg
    have ho1 := hall.out g hgn
    have ho1' : tOK (tth L g) = true ∧ (tth L g).1 = sizeL s sz sp g := by
      simp only [ok1, Bool.and_eq_true] at ho1
      exact ⟨ho1.1, sameL_eq ho1.2⟩
    obtain ⟨ht1, hsh1⟩ := ho1'
    have hdt : ((tth L g).2.length : Int) = sizeOf (sizeL s sz sp g) := by
      simp only [tOK, Bool.and_eq_true, decide_eq_true_eq] at ht1
      rw [← hsh1]; exact ht1.2
    have hwh := fun (i : Int) (h0 : 0 ≤ i) (h1 : i < sizeOf (sizeL s sz sp g)) => whole_in hcg hshp h0 h1
    have hja : ja L s sz sp (g + 1) (List.replicate N 0) = jd s (fromL s sz sp g) (tth L g).1 (tth L g).2 (tth L g).2.length (ja L s sz sp g (List.replicate N 0)) := rfl
    have hle := sizeOf_le (sizeL s sz sp g)
    have hjg := hjl g
    have e40g := e40 g
    unfold tileTr at e40g
    rw [hsh1] at hja hx
    rw [hsh1] at zx
    generalize hD : ja L s sz sp g (List.replicate N 0) = D at *
    generalize hFR : fromL s sz sp g = FR at *
    generalize hSZ : sizeL s sz sp g = SZ at *
    rcases hsm : sameT (tth L g) (tth L f) with _ | _
    · rw [hsm] at e39
      have hbad : joinR L s sz sp = zeroT 25 := by
        have : ¬ allN (ok2 L sz sp) L.length = true := by rw [allN_iff]; intro hh; have := hh g hgn; rw [hokg, hsm] at this; cases this
        simp [joinR, h1, h4, hall1.out, this]
      clear hwh hrng
      repeat' (first | apply zSeq | apply zReg | apply zSeqN | apply zSeqR | apply zSkip | apply zRet | apply zNil | apply zBlock | apply zExit | apply zBlkN | apply zBlkR | apply zBlkE | apply zSeqE | apply zLoopR | apply zLoopE | refine yYes' ?_ | refine yNo' ?_ | refine yNoU' ?_ | refine yLd' ?_ | refine yLdI' ?_ | refine yStS' ?_ | refine yStF' ?_ | refine ySt' ?_ | refine yBS' fun _ _ => ?_ | refine yAlloc' fun _ _ => ?_ | refine yBox' fun _ _ => ?_ | refine yOp' ?_ | refine yIfT ?_ | refine yIfF ?_ | refine yIf ?_ ?_ | refine ySplit' ?_ ?_ | refine yIfQ ?_ ?_ | refine ySplitQ' ?_ ?_ | refine yBlkX ?_ | intro _)
      exact zFin (vs := [.agg [.nilS, .nilS], .int .i64 25]) (t := zeroT 25) (by simp) (fun H1 hS => xres2c rfl rfl (hS.ld (by repeat (first | exact Fd.here rfl | apply Fd.there)) rfl (by simp [ldT, lvs]) rfl)) ⟨_, Tk.tup (.cons (.agg (.cons .leaf (.cons .leaf .nil))) (.cons .leaf .nil))⟩ (okT_zero _ _) (fin 25 hbad)
    rw [hsm] at e39
    replace hwh := Hide.mk hwh
    replace hdt := Hide.mk hdt
    replace hja := Hide.mk hja
    have hokg' := Hide.mk (hokg.trans hsm)
    clear hrng hokg hsm hsh1 ht1 ho1
    generalize hDT : (tth L g).2 = DT at *
    repeat' (first | apply zSeq | apply zReg | apply zSeqN | apply zSeqR | apply zSkip | apply zRet | apply zNil | apply zBlock | apply zExit | apply zBlkN | apply zBlkR | apply zBlkE | apply zSeqE | apply zLoopR | apply zLoopE | refine yYes' ?_ | refine yNo' ?_ | refine yNoU' ?_ | refine yLd' ?_ | refine yLdI' ?_ | refine yStS' ?_ | refine yStF' ?_ | refine ySt' ?_ | refine yBS' fun _ _ => ?_ | refine yAlloc' fun _ _ => ?_ | refine yBox' fun _ _ => ?_ | refine yOp' ?_ | refine yIfT ?_ | refine yIfF ?_ | refine yIf ?_ ?_ | refine ySplit' ?_ ?_ | refine yIfQ ?_ ?_ | refine ySplitQ' ?_ ?_ | refine yBlkX ?_ | intro _)
    refine zCall' (F := F40) (args := [sv, av, bv, .int .i64 g]) rfl rfl rfl (fun Hx hS hF => e40g Hx hF) fun v => ?_
    refine zTup2' fun fv zv h => ?_
    subst h
    refine zNum' .here (numsT_S (by omega)) fun of lf idf => ?_
    simp only [← alen22, ← aidx22] at lf idf
    rw [hfl] at lf idf
    repeat' (first | apply zSeq | apply zReg | apply zSeqN | apply zSeqR | apply zSkip | apply zRet | apply zNil | apply zBlock | apply zExit | apply zBlkN | apply zBlkR | apply zBlkE | apply zSeqE | apply zLoopR | apply zLoopE | refine yYes' ?_ | refine yNo' ?_ | refine yNoU' ?_ | refine yLd' ?_ | refine yLdI' ?_ | refine yStS' ?_ | refine yStF' ?_ | refine ySt' ?_ | refine yBS' fun _ _ => ?_ | refine yAlloc' fun _ _ => ?_ | refine yBox' fun _ _ => ?_ | refine yOp' ?_ | refine yIfT ?_ | refine yIfF ?_ | refine yIf ?_ ?_ | refine ySplit' ?_ ?_ | refine yIfQ ?_ ?_ | refine ySplitQ' ?_ ?_ | refine yBlkX ?_ | intro _)
    refine zLoop (fun m s1 LL => ∃ i : Nat, m = DT.length - i ∧ i ≤ DT.length ∧ get s1 0 = lv ∧ get s1 1 = sv ∧ get s1 2 = av ∧ get s1 3 = bv ∧ get s1 8 = .ptr b8 v8 0 ∧ get s1 10 = .ptr b10 v10 0 ∧ get s1 14 = .int .i64 g ∧ get s1 15 = fv ∧ get s1 66 = .int .i64 L.length ∧ get s1 67 = .int .i64 g ∧ get s1 97 = .int .i64 DT.length ∧ get s1 98 = .int .i64 i ∧ LL = [(fv, trS FR), (zv, trS SZ), (.ptr b10 v10 0, .bx [.at shv, .at dav]), (shv, trC s), (dav, trS (jd s FR SZ DT i D)), (.ptr b8 v8 0, .bx [.at .nilS, .at .nilS])]) DT.length ⟨0, rfl, Nat.zero_le _, rfl, rfl, rfl, rfl, rfl, rfl, rfl, rfl, rfl, rfl, rfl, rfl, rfl⟩ ?_
    rintro m2 s2 LL ⟨i, hmi, hi, g1, g2, g3, g4, g5, g6, g7, g8, g9, g10, g11, g12, rfl⟩
    simp only [cut_cons, cut_nil, g1, g2, g3, g4, g5, g6, g7, g8, g9, g10, g11, g12]
    clear g1 g2 g3 g4 g5 g6 g7 g8 g9 g10 g11 g12
    have hwi : w ((i : Int) + 1) = ((i + 1 : Nat) : Int) := w_id (by have := hdt.out; omega)
    by_cases hin : i < DT.length
    · have hin' : (i : Int) < DT.length := by omega
      have hml : (meshAt SZ i).length = s.length := by rw [meshAt_len, hzl]
      have e41 : ∀ Hx, Fm ⟨H, []⟩ Hx → F95 [x, .int .i64 i] Hx = some (mk (trF (meshAt SZ i)) Hx) := by
        intro Hx hF
        simp only [F95, zx.out _ hF, Option.map_some, mk_F]
        rw [if_neg (by have := hdt.out; omega)]
      have hjd : jd s FR SZ DT (i + 1) D = (jd s FR SZ DT i D).set (idxL s (addL (meshAt SZ i) FR)).toNat (nth DT i) := rfl
      have hjdl : (jd s FR SZ DT i D).length = N := by rw [jd_len]; exact hjg
      have hwi2 := hwh.out i (Int.natCast_nonneg i) (by have := hdt.out; omega)
      have hix := idxL_in h5 (l := addL (meshAt SZ i) FR) (by rw [addL_len]; exact hml) (fun j hj => (hwi2 j hj).2)
      obtain ⟨ix, hixe⟩ : ∃ ix : Nat, idxL s (addL (meshAt SZ i) FR) = ix := ⟨(idxL s (addL (meshAt SZ i) FR)).toNat, by omega⟩
      rw [hixe, Int.toNat_natCast] at hjd
      rw [hixe] at hix
      replace hjd := Hide.mk hjd
      clear hwi2
      generalize hP : meshAt SZ i = P at *
      repeat' (first | apply zSeq | apply zReg | apply zSeqN | apply zSeqR | apply zSkip | apply zRet | apply zNil | apply zBlock | apply zExit | apply zBlkN | apply zBlkR | apply zBlkE | apply zSeqE | apply zLoopR | apply zLoopE | refine yYes' ?_ | refine yNo' ?_ | refine yNoU' ?_ | refine yLd' ?_ | refine yLdI' ?_ | refine yStS' ?_ | refine yStF' ?_ | refine ySt' ?_ | refine yBS' fun _ _ => ?_ | refine yAlloc' fun _ _ => ?_ | refine yBox' fun _ _ => ?_ | refine yOp' ?_ | refine yIfT ?_ | refine yIfF ?_ | refine yIf ?_ ?_ | refine ySplit' ?_ ?_ | refine yIfQ ?_ ?_ | refine ySplitQ' ?_ ?_ | refine yBlkX ?_ | intro _)
      refine zCall' (F := F95) (args := [x, .int .i64 i]) rfl rfl rfl (fun Hx hS hF => e41 Hx hF) fun pl => ?_
      refine zNum' .here (numsT_F (by omega)) fun op lp ip => ?_
      simp only [← alen22, ← aidx22, hml] at lp ip
      clear e41
      repeat' (first | apply zSeq | apply zReg | apply zSeqN | apply zSeqR | apply zSkip | apply zRet | apply zNil | apply zBlock | apply zExit | apply zBlkN | apply zBlkR | apply zBlkE | apply zSeqE | apply zLoopR | apply zLoopE | refine yYes' ?_ | refine yNo' ?_ | refine yNoU' ?_ | refine yLd' ?_ | refine yLdI' ?_ | refine yStS' ?_ | refine yStF' ?_ | refine ySt' ?_ | refine yBS' fun _ _ => ?_ | refine yAlloc' fun _ _ => ?_ | refine yBox' fun _ _ => ?_ | refine yOp' ?_ | refine yIfT ?_ | refine yIfF ?_ | refine yIf ?_ ?_ | refine ySplit' ?_ ?_ | refine yIfQ ?_ ?_ | refine ySplitQ' ?_ ?_ | refine yBlkX ?_ | intro _)
      refine zLoop (fun m s1 LL => ∃ k : Nat, m = s.length - k ∧ k ≤ s.length ∧ get s1 0 = lv ∧ get s1 1 = sv ∧ get s1 2 = av ∧ get s1 3 = bv ∧ get s1 8 = .ptr b8 v8 0 ∧ get s1 10 = .ptr b10 v10 0 ∧ get s1 14 = .int .i64 g ∧ get s1 15 = fv ∧ get s1 17 = .int .i64 i ∧ get s1 18 = pl ∧ get s1 66 = .int .i64 L.length ∧ get s1 67 = .int .i64 g ∧ get s1 97 = .int .i64 DT.length ∧ get s1 98 = .int .i64 i ∧ get s1 109 = .int .i64 s.length ∧ get s1 110 = .int .i64 k ∧ LL = [(pl, trF (addL (P.take k) (FR.take k) ++ P.drop k)), (fv, trS FR), (zv, trS SZ), (.ptr b10 v10 0, .bx [.at shv, .at dav]), (shv, trC s), (dav, trS (jd s FR SZ DT i D)), (.ptr b8 v8 0, .bx [.at .nilS, .at .nilS])]) s.length ⟨0, rfl, Nat.zero_le _, rfl, rfl, rfl, rfl, rfl, rfl, rfl, rfl, rfl, rfl, rfl, rfl, rfl, rfl, rfl, rfl, by simp [addL]⟩ ?_
      rintro m3 s3 LL ⟨k, hmk, hk, g1, g2, g3, g4, g5, g6, g7, g8, g9, g10, g11, g12, g13, g14, g15, g16, rfl⟩
      simp only [cut_cons, cut_nil, g1, g2, g3, g4, g5, g6, g7, g8, g9, g10, g11, g12, g13, g14, g15, g16]
      clear g1 g2 g3 g4 g5 g6 g7 g8 g9 g10 g11 g12 g13 g14 g15 g16
      have hwk : w ((k : Int) + 1) = ((k + 1 : Nat) : Int) := w_id (by omega)
      by_cases hks : k < s.length
      · have hks' : (k : Int) < s.length := by omega
        have hcl : (addL (P.take k) (FR.take k) ++ P.drop k).length = s.length := by simp [addL_len]; omega
        have hnt := nth_addL P FR k (by omega)
        have htk := addL_take P FR k (by omega) (by omega)
        generalize addL (P.take k) (FR.take k) ++ P.drop k = A at *
        repeat' (first | apply zSeq | apply zReg | apply zSeqN | apply zSeqR | apply zSkip | apply zRet | apply zNil | apply zBlock | apply zExit | apply zBlkN | apply zBlkR | apply zBlkE | apply zSeqE | apply zLoopR | apply zLoopE | refine yYes' ?_ | refine yNo' ?_ | refine yNoU' ?_ | refine yLd' ?_ | refine yLdI' ?_ | refine yStS' ?_ | refine yStF' ?_ | refine ySt' ?_ | refine yBS' fun _ _ => ?_ | refine yAlloc' fun _ _ => ?_ | refine yBox' fun _ _ => ?_ | refine yOp' ?_ | refine yIfT ?_ | refine yIfF ?_ | refine yIf ?_ ?_ | refine ySplit' ?_ ?_ | refine yIfQ ?_ ?_ | refine ySplitQ' ?_ ?_ | refine yBlkX ?_ | intro _)
        refine zLoopN (s.length - (k + 1)) (by omega) ⟨k + 1, rfl, by omega, rfl, rfl, rfl, rfl, rfl, rfl, rfl, rfl, rfl, rfl, rfl, rfl, rfl, rfl, rfl, rfl, ?_⟩
        rw [htk]
      obtain rfl : k = s.length := by omega
      have hall2 : addL (P.take s.length) (FR.take s.length) ++ P.drop s.length = addL P FR := by
        rw [List.take_of_length_le (by omega), List.take_of_length_le (by omega), List.drop_of_length_le (by omega), List.append_nil]
      rw [hall2]
      clear hall2 hks hwk hmk hk
      have hks' : ¬ (s.length : Int) < s.length := by omega
      repeat' (first | apply zSeq | apply zReg | apply zSeqN | apply zSeqR | apply zSkip | apply zRet | apply zNil | apply zBlock | apply zExit | apply zBlkN | apply zBlkR | apply zBlkE | apply zSeqE | apply zLoopR | apply zLoopE | refine yYes' ?_ | refine yNo' ?_ | refine yNoU' ?_ | refine yLd' ?_ | refine yLdI' ?_ | refine yStS' ?_ | refine yStF' ?_ | refine ySt' ?_ | refine yBS' fun _ _ => ?_ | refine yAlloc' fun _ _ => ?_ | refine yBox' fun _ _ => ?_ | refine yOp' ?_ | refine yIfT ?_ | refine yIfF ?_ | refine yIf ?_ ?_ | refine ySplit' ?_ ?_ | refine yIfQ ?_ ?_ | refine ySplitQ' ?_ ?_ | refine yBlkX ?_ | intro _)
      refine zPure' (F := F96) (args := [sv, pl]) (v := .int .i64 ix) rfl rfl rfl (fun Hx hS hF => ?_) ?_
      · have a1 := hS.ints 0 rfl (numsT_F (l := addL P FR) (by rw [addL_len]; omega))
        simp [F96, zs.out _ hF, a1, hixe]
      have hixN : ix < N := by omega
      have hixN' : (ix : Int) < N := by omega
      repeat' (first | apply zSeq | apply zReg | apply zSeqN | apply zSeqR | apply zSkip | apply zRet | apply zNil | apply zBlock | apply zExit | apply zBlkN | apply zBlkR | apply zBlkE | apply zSeqE | apply zLoopR | apply zLoopE | refine yYes' ?_ | refine yNo' ?_ | refine yNoU' ?_ | refine yLd' ?_ | refine yLdI' ?_ | refine yStS' ?_ | refine yStF' ?_ | refine ySt' ?_ | refine yBS' fun _ _ => ?_ | refine yAlloc' fun _ _ => ?_ | refine yBox' fun _ _ => ?_ | refine yOp' ?_ | refine yIfT ?_ | refine yIfF ?_ | refine yIf ?_ ?_ | refine ySplit' ?_ ?_ | refine yIfQ ?_ ?_ | refine ySplitQ' ?_ ?_ | refine yBlkX ?_ | intro _)
      refine zDrop (zLoopN (DT.length - (i + 1)) (by omega) ⟨i + 1, rfl, by omega, rfl, rfl, rfl, rfl, rfl, rfl, rfl, rfl, rfl, rfl, rfl, rfl, ?_⟩)
      rw [hjd.out]
    obtain rfl : i = DT.length := by omega
    have hin' : ¬ (DT.length : Int) < DT.length := by omega
    rw [← hja.out]
    repeat' (first | apply zSeq | apply zReg | apply zSeqN | apply zSeqR | apply zSkip | apply zRet | apply zNil | apply zBlock | apply zExit | apply zBlkN | apply zBlkR | apply zBlkE | apply zSeqE | apply zLoopR | apply zLoopE | refine yYes' ?_ | refine yNo' ?_ | refine yNoU' ?_ | refine yLd' ?_ | refine yLdI' ?_ | refine yStS' ?_ | refine yStF' ?_ | refine ySt' ?_ | refine yBS' fun _ _ => ?_ | refine yAlloc' fun _ _ => ?_ | refine yBox' fun _ _ => ?_ | refine yOp' ?_ | refine yIfT ?_ | refine yIfF ?_ | refine yIf ?_ ?_ | refine ySplit' ?_ ?_ | refine yIfQ ?_ ?_ | refine ySplitQ' ?_ ?_ | refine yBlkX ?_ | intro _)
    refine zDrop (zDrop (zLoopN (L.length - (g + 1)) (by omega) ⟨g + 1, rfl, by omega, rfl, rfl, rfl, rfl, rfl, rfl, rfl, rfl, ?_, rfl⟩))
    intro j hj
    by_cases hjg2 : j = g
    · subst hjg2; exact hokg'.out
    · exact hok.out j (by omega)
  obtain rfl : g = L.length := by omega
  have hgn' : ¬ (L.length : Int) < L.length := by omega
  have hall2 : allN (ok2 L sz sp) L.length = true := (allN_iff _ _).2 hok.out
  have hres : joinR L s sz sp = okTn (trC s) (trS (ja L s sz sp L.length (List.replicate N 0))) := by
    simp [joinR, h1, h4, hall1.out, hall2, joinD, hN]
  replace hvv := hvv.out
  rw [hres] at hvv
  replace hvv := Hide.mk hvv
  clear hall2 hres
  generalize ja L s sz sp L.length (List.replicate N 0) = D at *
  repeat' (first | apply zSeq | apply zReg | apply zSeqN | apply zSeqR | apply zSkip | apply zRet | apply zNil | apply zBlock | apply zExit | apply zBlkN | apply zBlkR | apply zBlkE | apply zSeqE | apply zLoopR | apply zLoopE | refine yYes' ?_ | refine yNo' ?_ | refine yNoU' ?_ | refine yLd' ?_ | refine yLdI' ?_ | refine yStS' ?_ | refine yStF' ?_ | refine ySt' ?_ | refine yBS' fun _ _ => ?_ | refine yAlloc' fun _ _ => ?_ | refine yBox' fun _ _ => ?_ | refine yOp' ?_ | refine yIfT ?_ | refine yIfF ?_ | refine yIf ?_ ?_ | refine ySplit' ?_ ?_ | refine yIfQ ?_ ?_ | refine ySplitQ' ?_ ?_ | refine yBlkX ?_ | intro _)
  exact zFin (vs := [.agg [shv, dav], .int .i64 0]) (t := okTn (trC s) (trS D)) (by simp) (fun H1 hS => xres2c rfl rfl (hS.ld (by repeat (first | exact Fd.here rfl | apply Fd.there)) rfl (by simp [ldT, lvs]) rfl)) (by apply Exists.intro; repeat (first | exact Tks.nil | apply Tk.tup | apply Tk.agg | apply Tks.cons | exact Tk.leaf | (apply Tk.pick; repeat (first | exact Fr.here | apply Fr.there)))) (by simp [okTn, okT, okTs, okT_C, okT_S, old]) hvv.out
/- Walks: 'joins' of the split: program and document put parts together alike. -/
theorem F38_of {H : Hp} {t s a b : AV} {L : List TS} {sh sz sp : List Int} (ht : tensL H t = some L) (hs : ints H s = some sh) (ha : ints H a = some sz) (hb : ints H b = some sp) : F38 [t, s, a, b] H = some (mk (joinT s L sh sz sp) H) := by
  show (tensL H t).bind _ = _
  rw [ht, Option.bind_some, hs, Option.bind_some, ha, Option.bind_some, hb, Option.bind_some, if_pos ⟨rfl, fun h => by have := (shapeOK_rng h).1; omega⟩]
theorem F86_of {H : Hp} {t s a b : AV} {L : List TS} {sh sz sp : List Int} (ht : tensL H t = some L) (hs : ints H s = some sh) (ha : ints H a = some sz) (hb : ints H b = some sp) : F86 [t, s, a, b] H = some (mk (joinR L sh sz sp) H) := by
  show (tensL H t).bind _ = _
  rw [ht, Option.bind_some, hs, Option.bind_some, ha, Option.bind_some, hb, Option.map_some]
theorem mayS_iff (s sz sp : List Int) : mayS s sz sp = true ↔ meshOK sz = true ∧ shapeOK s = true ∧ specOK sz sp s.length = true := by
  simp only [mayS, Bool.and_eq_true]
  constructor
  · rintro ⟨⟨h1, h2⟩, h3⟩; exact ⟨h2, h1, h3⟩
  · rintro ⟨h1, h2, h3⟩; exact ⟨⟨h2, h1⟩, h3⟩
/-- What both come to: the same refusal, or the same numbers. -/
theorem join_both (sv : AV) (L : List TS) (s sz sp : List Int) : (∃ e : Int, joinT sv L s sz sp = zeroT e ∧ joinR L s sz sp = zeroT e) ∨
    (shapeOK s = true ∧ joinT sv L s sz sp = okTn (clT sv s) (trF (joinD L s sz sp)) ∧ joinR L s sz sp = okTn (trC s) (trS (joinD L s sz sp))) := by
  by_cases h1 : mayS s sz sp = true
  · have h1' := (mayS_iff s sz sp).1 h1
    by_cases h2 : (L.length : Int) = devs sz
    · by_cases h3 : allN (ok1 L s sz sp) L.length = true
      · by_cases h4 : allN (ok2 L sz sp) L.length = true
        · exact .inr ⟨h1'.2.1, by simp only [joinT]; rw [if_pos h1', if_pos h2, if_pos h3, if_pos h4], by simp only [joinR]; rw [if_pos h1, if_pos h2, if_pos h3, if_pos h4]⟩
        · exact .inl ⟨25, by simp only [joinT]; rw [if_pos h1', if_pos h2, if_pos h3, if_neg h4], by simp only [joinR]; rw [if_pos h1, if_pos h2, if_pos h3, if_neg h4]⟩
      · exact .inl ⟨13, by simp only [joinT]; rw [if_pos h1', if_pos h2, if_neg h3], by simp only [joinR]; rw [if_pos h1, if_pos h2, if_neg h3]⟩
    · exact .inl ⟨13, by simp only [joinT]; rw [if_pos h1', if_neg h2], by simp only [joinR]; rw [if_pos h1, if_neg h2]⟩
  · have h1' := fun h => h1 ((mayS_iff s sz sp).2 h)
    exact .inl ⟨1, by simp only [joinT]; rw [if_neg h1'], by simp only [joinR]; rw [if_neg h1]⟩
theorem joinD_len (L : List TS) (s sz sp : List Int) : (joinD L s sz sp).length ≤ 4096 := by
  have := sizeOf_le s
  unfold joinD
  rw [ja_len]
  simp
  omega
def F35 (args : List AV) (H : Hp) : Option AV := match args with
  | [l, s, a, b] => (tensL H l).bind fun L => (ints H s).bind fun sh => (ints H a).bind fun sz => (ints H b).map fun sp => .bool true
  | _ => none
set_option maxHeartbeats 4000000 in
theorem snd35 : Sound Try.prog 35 (FSem.pure F35).run := by
  refine sound_of hT (EOK_cons snd38 (EOK_cons snd39 (EOK_cons snd86 (EOK_nil _)))) mixed A35 Try.func35 hb35 (by kernel_rfl) (by kernel_rfl) (by kernel_rfl) (by kernel_rfl) sh35 4 (by kernel_rfl) rs35 hr35 ?_
  intro args H r H' hw h
  obtain ⟨rfl, hv⟩ := pureAt h
  clear h
  unfold F35 at hv
  split at hv
  rotate_left
  · cases hv
  rename_i lv sv av bv
  obtain ⟨L, hL, hv⟩ := Option.bind_eq_some_iff.1 hv
  obtain ⟨s, hs, hv⟩ := Option.bind_eq_some_iff.1 hv
  obtain ⟨sz, hsz, hv⟩ := Option.bind_eq_some_iff.1 hv
  obtain ⟨sp, hsp, hv⟩ := Option.map_eq_some_iff.1 hv
  cases hv
  have e38 : ∀ Hx, Fm ⟨H', []⟩ Hx → F38 [lv, sv, av, bv] Hx = some (mk (joinT sv L s sz sp) Hx) := fun Hx hF => F38_of (tensL_ext hF.pre' hL) (ints_ext hF.pre' hs) (ints_ext hF.pre' hsz) (ints_ext hF.pre' hsp)
  have e86 : ∀ Hx, Fm ⟨H', []⟩ Hx → F86 [lv, sv, av, bv] Hx = some (mk (joinR L s sz sp) Hx) := fun Hx hF => F86_of (tensL_ext hF.pre' hL) (ints_ext hF.pre' hs) (ints_ext hF.pre' hsz) (ints_ext hF.pre' hsp)
  have hcl := clT_is hs
  refine ⟨rfl, go (zStart (SL.nil hw []) ?_)⟩
  unfold c35
  simp only [argSl]
  have hs0 : sameT ([], []) ([], []) = true := sameT_refl _
  have hdl := joinD_len L s sz sp
  rcases join_both sv L s sz sp with ⟨e, r1, r2⟩ | ⟨hsh, r1, r2⟩
  · rw [r1] at e38
    rw [r2] at e86
    repeat' (first | apply zSeq | apply zReg | apply zSeqN | apply zSeqR | apply zSkip | apply zRet | apply zNil | apply zBlock | apply zExit | apply zBlkN | apply zBlkR | apply zBlkE | apply zSeqE | apply zLoopR | apply zLoopE | refine yYes' ?_ | refine yNo' ?_ | refine yNoU' ?_ | refine yLd' ?_ | refine yLdI' ?_ | refine yStS' ?_ | refine yStF' ?_ | refine ySt' ?_ | refine yBS' fun _ _ => ?_ | refine yAlloc' fun _ _ => ?_ | refine yBox' fun _ _ => ?_ | refine yOp' ?_ | refine yIfT ?_ | refine yIfF ?_ | refine yIf ?_ ?_ | refine ySplit' ?_ ?_ | refine yIfQ ?_ ?_ | refine ySplitQ' ?_ ?_ | refine yBlkX ?_ | intro _)
    refine zCall' (F := F38) (args := [lv, sv, av, bv]) rfl rfl rfl (fun H1 hS hF => e38 H1 hF) fun v => ?_
    refine zTup2' fun tv ev h => ?_
    subst h
    refine zAgg2' fun shv dav h => ?_
    subst h
    refine zAt' (.there (.there .here)) fun h => ?_
    subst h
    refine zAt' .here fun h => ?_
    subst h
    refine zAt' .here fun h => ?_
    subst h
    repeat' (first | apply zSeq | apply zReg | apply zSeqN | apply zSeqR | apply zSkip | apply zRet | apply zNil | apply zBlock | apply zExit | apply zBlkN | apply zBlkR | apply zBlkE | apply zSeqE | apply zLoopR | apply zLoopE | refine yYes' ?_ | refine yNo' ?_ | refine yNoU' ?_ | refine yLd' ?_ | refine yLdI' ?_ | refine yStS' ?_ | refine yStF' ?_ | refine ySt' ?_ | refine yBS' fun _ _ => ?_ | refine yAlloc' fun _ _ => ?_ | refine yBox' fun _ _ => ?_ | refine yOp' ?_ | refine yIfT ?_ | refine yIfF ?_ | refine yIf ?_ ?_ | refine ySplit' ?_ ?_ | refine yIfQ ?_ ?_ | refine ySplitQ' ?_ ?_ | refine yBlkX ?_ | intro _)
    refine zCall' (F := F86) (args := [lv, sv, av, bv]) rfl rfl rfl (fun H1 hS hF => e86 H1 hF) fun v => ?_
    refine zTup2' fun tv ev h => ?_
    subst h
    refine zAgg2' fun shv dav h => ?_
    subst h
    refine zAt' (.there (.there .here)) fun h => ?_
    subst h
    refine zAt' .here fun h => ?_
    subst h
    refine zAt' .here fun h => ?_
    subst h
    repeat' (first | apply zSeq | apply zReg | apply zSeqN | apply zSeqR | apply zSkip | apply zRet | apply zNil | apply zBlock | apply zExit | apply zBlkN | apply zBlkR | apply zBlkE | apply zSeqE | apply zLoopR | apply zLoopE | refine yYes' ?_ | refine yNo' ?_ | refine yNoU' ?_ | refine yLd' ?_ | refine yLdI' ?_ | refine yStS' ?_ | refine yStF' ?_ | refine ySt' ?_ | refine yBS' fun _ _ => ?_ | refine yAlloc' fun _ _ => ?_ | refine yBox' fun _ _ => ?_ | refine yOp' ?_ | refine yIfT ?_ | refine yIfF ?_ | refine yIf ?_ ?_ | refine ySplit' ?_ ?_ | refine yIfQ ?_ ?_ | refine ySplitQ' ?_ ?_ | refine yBlkX ?_ | intro _)
    exact zEndP (vs := [.bool true]) (by simp) (fun H1 hS => by simp [rs35]) rfl
  · have hs4 := (shapeOK_rng hsh).1
    have hnc : numsT (clT sv s) = some s := by
      rcases hcl with h | h | h <;> rw [h]
      · exact numsT_S (by omega)
      · exact numsT_F (by omega)
      · exact numsT_C (by omega)
    rw [r1] at e38
    rw [r2] at e86
    generalize joinD L s sz sp = D at *
    generalize clT sv s = ct at *
    repeat' (first | apply zSeq | apply zReg | apply zSeqN | apply zSeqR | apply zSkip | apply zRet | apply zNil | apply zBlock | apply zExit | apply zBlkN | apply zBlkR | apply zBlkE | apply zSeqE | apply zLoopR | apply zLoopE | refine yYes' ?_ | refine yNo' ?_ | refine yNoU' ?_ | refine yLd' ?_ | refine yLdI' ?_ | refine yStS' ?_ | refine yStF' ?_ | refine ySt' ?_ | refine yBS' fun _ _ => ?_ | refine yAlloc' fun _ _ => ?_ | refine yBox' fun _ _ => ?_ | refine yOp' ?_ | refine yIfT ?_ | refine yIfF ?_ | refine yIf ?_ ?_ | refine ySplit' ?_ ?_ | refine yIfQ ?_ ?_ | refine ySplitQ' ?_ ?_ | refine yBlkX ?_ | intro _)
    refine zCall' (F := F38) (args := [lv, sv, av, bv]) rfl rfl rfl (fun H1 hS hF => e38 H1 hF) fun v => ?_
    refine zTup2' fun tv ev h => ?_
    subst h
    refine zAgg2' fun s1 d1 h => ?_
    subst h
    refine zAt' (.there (.there .here)) fun h => ?_
    subst h
    refine zNum' .here hnc fun o1 _ _ => ?_
    refine zNum' (.there .here) (numsT_F (by omega)) fun o2 _ _ => ?_
    repeat' (first | apply zSeq | apply zReg | apply zSeqN | apply zSeqR | apply zSkip | apply zRet | apply zNil | apply zBlock | apply zExit | apply zBlkN | apply zBlkR | apply zBlkE | apply zSeqE | apply zLoopR | apply zLoopE | refine yYes' ?_ | refine yNo' ?_ | refine yNoU' ?_ | refine yLd' ?_ | refine yLdI' ?_ | refine yStS' ?_ | refine yStF' ?_ | refine ySt' ?_ | refine yBS' fun _ _ => ?_ | refine yAlloc' fun _ _ => ?_ | refine yBox' fun _ _ => ?_ | refine yOp' ?_ | refine yIfT ?_ | refine yIfF ?_ | refine yIf ?_ ?_ | refine ySplit' ?_ ?_ | refine yIfQ ?_ ?_ | refine ySplitQ' ?_ ?_ | refine yBlkX ?_ | intro _)
    refine zCall' (F := F86) (args := [lv, sv, av, bv]) rfl rfl rfl (fun H1 hS hF => e86 H1 hF) fun v => ?_
    refine zTup2' fun tv ev h => ?_
    subst h
    refine zAgg2' fun s2 d2 h => ?_
    subst h
    refine zAt' (.there (.there .here)) fun h => ?_
    subst h
    refine zNum' .here (numsT_C (by omega)) fun o3 _ _ => ?_
    refine zNum' (.there .here) (numsT_S (by omega)) fun o4 _ _ => ?_
    repeat' (first | apply zSeq | apply zReg | apply zSeqN | apply zSeqR | apply zSkip | apply zRet | apply zNil | apply zBlock | apply zExit | apply zBlkN | apply zBlkR | apply zBlkE | apply zSeqE | apply zLoopR | apply zLoopE | refine yYes' ?_ | refine yNo' ?_ | refine yNoU' ?_ | refine yLd' ?_ | refine yLdI' ?_ | refine yStS' ?_ | refine yStF' ?_ | refine ySt' ?_ | refine yBS' fun _ _ => ?_ | refine yAlloc' fun _ _ => ?_ | refine yBox' fun _ _ => ?_ | refine yOp' ?_ | refine yIfT ?_ | refine yIfF ?_ | refine yIf ?_ ?_ | refine ySplit' ?_ ?_ | refine yIfQ ?_ ?_ | refine ySplitQ' ?_ ?_ | refine yBlkX ?_ | intro _)
    refine zPure' (F := F39) (args := [.agg [s1, d1], .agg [s2, d2]]) (v := .bool true) rfl rfl rfl (fun H1 hS hF => ?_) ?_
    · have g1 : ints H1 s1 = some s := hS.ints 4 rfl hnc
      have g2 : ints H1 d1 = some D := Num.out (by first | exact Num.fz (by assumption) | exact Num.fz (Hide.out (by assumption)) | (apply Num.here (t := trS _); (· ((repeat (first | exact Fu.here | apply Fu.there)); done)); (· exact numsT_S (by first | omega | (simp; omega)))) | (apply Num.here (t := trF _); (· ((repeat (first | exact Fu.here | apply Fu.there)); done)); (· exact numsT_F (by first | omega | (simp; omega)))) | (apply Num.here (t := trC _); (· ((repeat (first | exact Fu.here | apply Fu.there)); done)); (· exact numsT_C (by first | omega | (simp; omega)))) | (apply Num.here (t := trB true _); (· ((repeat (first | exact Fu.here | apply Fu.there)); done)); (· exact numsT_F (by first | omega | (simp; omega)))) | (apply Num.here (t := trB false _); (· ((repeat (first | exact Fu.here | apply Fu.there)); done)); (· exact numsT_S (by first | omega | (simp; omega))))) H1 hS
      have g3 : ints H1 s2 = some s := Num.out (by first | exact Num.fz (by assumption) | exact Num.fz (Hide.out (by assumption)) | (apply Num.here (t := trS _); (· ((repeat (first | exact Fu.here | apply Fu.there)); done)); (· exact numsT_S (by first | omega | (simp; omega)))) | (apply Num.here (t := trF _); (· ((repeat (first | exact Fu.here | apply Fu.there)); done)); (· exact numsT_F (by first | omega | (simp; omega)))) | (apply Num.here (t := trC _); (· ((repeat (first | exact Fu.here | apply Fu.there)); done)); (· exact numsT_C (by first | omega | (simp; omega)))) | (apply Num.here (t := trB true _); (· ((repeat (first | exact Fu.here | apply Fu.there)); done)); (· exact numsT_F (by first | omega | (simp; omega)))) | (apply Num.here (t := trB false _); (· ((repeat (first | exact Fu.here | apply Fu.there)); done)); (· exact numsT_S (by first | omega | (simp; omega))))) H1 hS
      have g4 : ints H1 d2 = some D := Num.out (by first | exact Num.fz (by assumption) | exact Num.fz (Hide.out (by assumption)) | (apply Num.here (t := trS _); (· ((repeat (first | exact Fu.here | apply Fu.there)); done)); (· exact numsT_S (by first | omega | (simp; omega)))) | (apply Num.here (t := trF _); (· ((repeat (first | exact Fu.here | apply Fu.there)); done)); (· exact numsT_F (by first | omega | (simp; omega)))) | (apply Num.here (t := trC _); (· ((repeat (first | exact Fu.here | apply Fu.there)); done)); (· exact numsT_C (by first | omega | (simp; omega)))) | (apply Num.here (t := trB true _); (· ((repeat (first | exact Fu.here | apply Fu.there)); done)); (· exact numsT_F (by first | omega | (simp; omega)))) | (apply Num.here (t := trB false _); (· ((repeat (first | exact Fu.here | apply Fu.there)); done)); (· exact numsT_S (by first | omega | (simp; omega))))) H1 hS
      show (tens H1 _).bind _ = _
      rw [tens_of g1 g2, Option.bind_some, tens_of g3 g4, Option.map_some, sameT_refl]
    repeat' (first | apply zSeq | apply zReg | apply zSeqN | apply zSeqR | apply zSkip | apply zRet | apply zNil | apply zBlock | apply zExit | apply zBlkN | apply zBlkR | apply zBlkE | apply zSeqE | apply zLoopR | apply zLoopE | refine yYes' ?_ | refine yNo' ?_ | refine yNoU' ?_ | refine yLd' ?_ | refine yLdI' ?_ | refine yStS' ?_ | refine yStF' ?_ | refine ySt' ?_ | refine yBS' fun _ _ => ?_ | refine yAlloc' fun _ _ => ?_ | refine yBox' fun _ _ => ?_ | refine yOp' ?_ | refine yIfT ?_ | refine yIfF ?_ | refine yIf ?_ ?_ | refine ySplit' ?_ ?_ | refine yIfQ ?_ ?_ | refine ySplitQ' ?_ ?_ | refine yBlkX ?_ | intro _)
    exact zEndP (vs := [.bool true]) (by simp) (fun H1 hS => by simp [rs35]) rfl
/- Walks: tape. -/
def tapeAt (i j : Int) : Int := (w (w (w (w (j * j) * 7) + w (i * 41)) + w (j * i))).tmod 211
def tapeL (i : Int) (n : Nat) : List Int := (List.range n).map fun (j : Nat) => tapeAt i j
theorem tapeL_succ (i : Int) (n : Nat) : tapeL i (n + 1) = tapeL i n ++ [tapeAt i n] := by simp [tapeL, List.range_succ]
theorem tapeL_len (i : Int) (n : Nat) : (tapeL i n).length = n := by simp [tapeL]
noncomputable def F32 (args : List AV) (H : Hp) : Option (AV × Hp) := match args with
  | [.int .i64 i] => some (mk (trS (tapeL i 90)) H)
  | _ => none
set_option maxHeartbeats 2000000 in
theorem snd32 : Sound Try.prog 32 (FSem.eff F32).run := by
  refine sound_of hT (EOK_nil _) mixed A32 Try.func32 hb32 (by kernel_rfl) (by kernel_rfl) (by kernel_rfl) (by kernel_rfl) sh32 1 (by kernel_rfl) rs32 hr32 ?_
  intro args H r H' hw h
  have hv : F32 args H = some (r, H') := h
  clear h
  unfold F32 at hv
  split at hv
  rotate_left
  · cases hv
  rename_i i
  have hvv := Hide.mk (Option.some.inj hv)
  clear hv
  refine ⟨rfl, go (zStart (SL.nil hw []) ?_)⟩
  unfold c32
  simp only [argSl]
  repeat' (first | apply zSeq | apply zReg | apply zSeqN | apply zSeqR | apply zSkip | apply zRet | apply zNil | apply zBlock | apply zExit | apply zBlkN | apply zBlkR | apply zBlkE | apply zSeqE | apply zLoopR | apply zLoopE | refine yYes' ?_ | refine yNo' ?_ | refine yNoU' ?_ | refine yLd' ?_ | refine yLdI' ?_ | refine yStS' ?_ | refine yStF' ?_ | refine ySt' ?_ | refine yBS' fun _ _ => ?_ | refine yAlloc' fun _ _ => ?_ | refine yBox' fun _ _ => ?_ | refine yOp' ?_ | refine yIfT ?_ | refine yIfF ?_ | refine yIf ?_ ?_ | refine ySplit' ?_ ?_ | refine yIfQ ?_ ?_ | refine ySplitQ' ?_ ?_ | refine yBlkX ?_ | intro _)
  refine zG (fun H1 hS => hS.nilI) ?_
  refine zLoop (fun m s1 L => ∃ (d : Nat) (u : AV), m = 90 - d ∧ d ≤ 90 ∧ get s1 0 = .int .i64 i ∧ get s1 3 = u ∧ get s1 4 = .int .i64 d ∧ L = [(u, trS (tapeL i d))]) 90 ⟨0, .nilS, rfl, by omega, rfl, rfl, rfl, rfl⟩ ?_
  rintro m s1 L ⟨d, u, hm, hd, g1, g2, g3, rfl⟩
  simp only [cut_cons, cut_nil, g1, g2, g3]
  clear g1 g2 g3
  have hwd : w ((d : Int) + 1) = ((d + 1 : Nat) : Int) := w_id (by omega)
  have hl := tapeL_len i d
  by_cases hd9 : d < 90
  · have hd9' : (d : Int) < 90 := by omega
    repeat' (first | apply zSeq | apply zReg | apply zSeqN | apply zSeqR | apply zSkip | apply zRet | apply zNil | apply zBlock | apply zExit | apply zBlkN | apply zBlkR | apply zBlkE | apply zSeqE | apply zLoopR | apply zLoopE | refine yYes' ?_ | refine yNo' ?_ | refine yNoU' ?_ | refine yLd' ?_ | refine yLdI' ?_ | refine yStS' ?_ | refine yStF' ?_ | refine ySt' ?_ | refine yBS' fun _ _ => ?_ | refine yAlloc' fun _ _ => ?_ | refine yBox' fun _ _ => ?_ | refine yOp' ?_ | refine yIfT ?_ | refine yIfF ?_ | refine yIf ?_ ?_ | refine ySplit' ?_ ?_ | refine yIfQ ?_ ?_ | refine ySplitQ' ?_ ?_ | refine yBlkX ?_ | intro _)
    refine zApI' (n := tapeL i d) rfl rfl (.inl rfl) (fun u' => .here) (by omega) rfl fun u' _ => ?_
    repeat' (first | apply zSeq | apply zReg | apply zSeqN | apply zSeqR | apply zSkip | apply zRet | apply zNil | apply zBlock | apply zExit | apply zBlkN | apply zBlkR | apply zBlkE | apply zSeqE | apply zLoopR | apply zLoopE | refine yYes' ?_ | refine yNo' ?_ | refine yNoU' ?_ | refine yLd' ?_ | refine yLdI' ?_ | refine yStS' ?_ | refine yStF' ?_ | refine ySt' ?_ | refine yBS' fun _ _ => ?_ | refine yAlloc' fun _ _ => ?_ | refine yBox' fun _ _ => ?_ | refine yOp' ?_ | refine yIfT ?_ | refine yIfF ?_ | refine yIf ?_ ?_ | refine ySplit' ?_ ?_ | refine yIfQ ?_ ?_ | refine ySplitQ' ?_ ?_ | refine yBlkX ?_ | intro _)
    refine zLoopN (90 - (d + 1)) (by omega) ⟨d + 1, u', rfl, by omega, rfl, rfl, rfl, ?_⟩
    rw [tapeL_succ]
    rfl
  · obtain rfl : d = 90 := by omega
    repeat' (first | apply zSeq | apply zReg | apply zSeqN | apply zSeqR | apply zSkip | apply zRet | apply zNil | apply zBlock | apply zExit | apply zBlkN | apply zBlkR | apply zBlkE | apply zSeqE | apply zLoopR | apply zLoopE | refine yYes' ?_ | refine yNo' ?_ | refine yNoU' ?_ | refine yLd' ?_ | refine yLdI' ?_ | refine yStS' ?_ | refine yStF' ?_ | refine ySt' ?_ | refine yBS' fun _ _ => ?_ | refine yAlloc' fun _ _ => ?_ | refine yBox' fun _ _ => ?_ | refine yOp' ?_ | refine yIfT ?_ | refine yIfF ?_ | refine yIf ?_ ?_ | refine ySplit' ?_ ?_ | refine yIfQ ?_ ?_ | refine ySplitQ' ?_ ?_ | refine yBlkX ?_ | intro _)
    exact zFin (vs := [u]) (t := trS (tapeL i 90)) (by simp) (fun H1 hS => by simp [rs32]) ⟨_, .pick .here⟩ (okT_S _ _) hvv.out
/- Walks: SplitTells. -/
theorem xdo_slice45 {E : Env} {sh : Bool} {s : Sl} {H : Hp} (x lo hi mx) : xdo E T sh (.slice 45 x lo hi mx) s H = (aslice 2 (ev s x) (lo.map (ev s)) (hi.map (ev s)) (mx.map (ev s))).map fun v => (v, H) := by
  simp [xdo, aop, D45, T40]
theorem F33_of {H : Hp} {t a b : AV} {p : TS} {sz sp : List Int} (ht : tens H t = some p) (ha : ints H a = some sz) (hb : ints H b = some sp) (d : Int) : F33 [t, a, b, .int .i64 d] H = some (.bool true) := by
  show (tens H t).bind _ = _
  rw [ht, Option.bind_some, ha, Option.bind_some, hb, Option.map_some]
theorem F35_of {H : Hp} {l s a b : AV} {L : List TS} {sh sz sp : List Int} (hl : tensL H l = some L) (hs : ints H s = some sh) (ha : ints H a = some sz) (hb : ints H b = some sp) : F35 [l, s, a, b] H = some (.bool true) := by
  show (tensL H l).bind _ = _
  rw [hl, Option.bind_some, hs, Option.bind_some, ha, Option.bind_some, hb, Option.map_some]
/-- What 'w' is: a list of tensors of which one has been put in anew. -/
theorem tensL_put {H : Hp} {b ver k : Nat} {vs : List AV} {x y : AV} {M : List TS} {q : TS} {es : Bool} (hat : H.at b ver = some ⟨ver, (vs.set (k * 2) x).set (k * 2 + 1) y, true, true⟩) (hv : vs.length = M.length * 2) (hM : tensG H vs = some M) (hk : k < M.length) (hn : M.length ≤ 2932031007402) (hq : tens H (.agg [x, y]) = some q) :
    tensL H (.sl b ver 0 M.length 2 es) = some (M.set k q) := by
  simp only [tensL, hat, Option.bind_some]
  rw [if_pos ⟨trivial, hn⟩, if_pos (by simp; omega), List.drop_zero, List.take_of_length_le (by simp; omega)]
  refine tensG_mk _ _ (by simp; omega) fun j hj => ?_
  rw [List.length_set] at hj
  rw [set2_at vs k j x y (by omega)]
  by_cases hjk : j = k
  · subst hjk
    refine ⟨x, y, by rw [if_pos rfl], ?_⟩
    rw [hq]
    simp [tth, List.getD_eq_getElem?_getD, hj]
  · rw [if_neg hjk]
    obtain ⟨x', y', g1, g2⟩ := (tensG_at vs hM).2 j hj
    refine ⟨x', y', g1, ?_⟩
    rw [g2]
    simp only [tth, List.getD_eq_getElem?_getD]
    rw [List.getElem?_set_ne (fun e => hjk e.symm)]
end Go.Proofs.Ytokadkakmhfdeaa.Pq
