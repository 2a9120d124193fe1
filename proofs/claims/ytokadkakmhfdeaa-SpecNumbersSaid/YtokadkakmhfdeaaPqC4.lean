/- Functions in short form. -/
import Derived.Test.YtokadkakmhfdeaaPqS
import Derived.Test.YtokadkakmhfdeaaPqT
set_option linter.unusedVariables false
namespace Go.Proofs.Ytokadkakmhfdeaa.Pq
open Go.RowKit

/-! parquetry/parquetrylaw16.TileShares (1 parameters; calls 16 (*parquetry/parquetrykeep.Tape).Next, 17 (*parquetry/parquetrykeep.Tape).Shape, 18 (*parquetry/parquetrykeep.Tape).Spec, 19 parquetry/tile.Most, 20 parquetry/parquetryref14.Devices, 21 parquetry/tile.Size, 22 parquetry/tile.From, 23 parquetry/parquetryref14.Copies, 24 parquetry/parquetrylaw16.known) -/
def A3 : Ann := { live := fun i => if i = 7 then [4, 5, 6, 7, 8, 37, 38, 39] else if i = 13 then [4, 5, 6, 7, 8, 11, 12] else if i = 20 then [4, 5, 6, 7, 8, 11, 12, 13, 14, 86, 87] else [], drop := fun i => false }
noncomputable def c3 : Cc :=
  (.seq (.reg false [⟨some 2, (Op.assign (Operand.const (Value.bool false))), none⟩])
  (.seq (.reg false [⟨some 16, (Op.move (Operand.tmp 0)), none⟩,
    ⟨some 17, (Op.build 25 #[(0, (Operand.tmp 16))]), none⟩,
    ⟨some 18, (Op.box 25 (Operand.tmp 17)), none⟩,
    ⟨some 3, (Op.assign (Operand.tmp 18)), none⟩])
  (.seq (.reg false [⟨some 19, (Op.buildSlice 22 1 #[(0, (Operand.const (Value.int IntKind.i64 2)))]), none⟩,
    ⟨some 20, (Op.buildSlice 22 2 #[(0, (Operand.const (Value.int IntKind.i64 2))), (1, (Operand.const (Value.int IntKind.i64 4)))]), none⟩,
    ⟨some 21, (Op.buildSlice 22 2 #[(0, (Operand.const (Value.int IntKind.i64 3))), (1, (Operand.const (Value.int IntKind.i64 2)))]), none⟩,
    ⟨some 22, (Op.buildSlice 22 3 #[(0, (Operand.const (Value.int IntKind.i64 2))), (1, (Operand.const (Value.int IntKind.i64 2))), (2, (Operand.const (Value.int IntKind.i64 2)))]), none⟩,
    ⟨some 23, (Op.buildSlice 22 0 #[]), none⟩,
    ⟨some 24, (Op.buildSlice 22 1 #[(0, (Operand.const (Value.int IntKind.i64 5)))]), none⟩,
    ⟨some 25, (Op.buildSlice 26 6 #[(0, (Operand.tmp 19)), (1, (Operand.tmp 20)), (2, (Operand.tmp 21)), (3, (Operand.tmp 22)), (4, (Operand.tmp 23)), (5, (Operand.tmp 24))]), none⟩,
    ⟨some 26, (Op.move (Operand.tmp 3)), none⟩,
    ⟨some 27, (Op.call { callee := (Callee.value (Operand.func 16)), args := #[(Operand.tmp 26), (Operand.const (Value.int IntKind.i64 6))], argTypes := #[23, 3] }), none⟩,
    ⟨some 28, (Op.indexAddr 26 (Operand.tmp 25) (Operand.tmp 27)), none⟩,
    ⟨some 29, (Op.load 22 (Operand.tmp 28)), none⟩,
    ⟨some 4, (Op.assign (Operand.tmp 29)), none⟩])
  (.seq (.reg false [⟨some 30, (Op.move (Operand.tmp 3)), none⟩,
    ⟨some 31, (Op.call { callee := (Callee.value (Operand.func 17)), args := #[(Operand.tmp 30)], argTypes := #[23] }), none⟩,
    ⟨some 5, (Op.assign (Operand.tmp 31)), none⟩])
  (.seq (.reg false [⟨some 32, (Op.move (Operand.tmp 3)), none⟩,
    ⟨some 33, (Op.move (Operand.tmp 4)), none⟩,
    ⟨some 34, (Op.move (Operand.tmp 5)), none⟩,
    ⟨some 35, (Op.call { callee := (Callee.builtin Builtin.len), args := #[(Operand.tmp 34)], argTypes := #[22] }), none⟩,
    ⟨some 36, (Op.call { callee := (Callee.value (Operand.func 18)), args := #[(Operand.tmp 32), (Operand.tmp 33), (Operand.tmp 35)], argTypes := #[23, 22, 3] }), none⟩,
    ⟨some 6, (Op.assign (Operand.tmp 36)), none⟩])
  (.seq (.reg false [⟨some 7, (Op.assign (Operand.const (Value.int IntKind.i64 0))), none⟩,
    ⟨some 8, (Op.assign (Operand.const (Value.int IntKind.i64 1))), none⟩])
  (.seq (.seq (.reg false [⟨some 37, (Op.move (Operand.tmp 5)), none⟩,
    ⟨some 38, (Op.call { callee := (Callee.builtin Builtin.len), args := #[(Operand.tmp 37)], argTypes := #[22] }), none⟩,
    ⟨some 39, (Op.move (Operand.const (Value.int IntKind.i64 0))), none⟩])
  (.block 0 (.loop [4, 5, 6, 7, 8, 37, 38, 39] false
    (.seq (.reg false [⟨some 40, (Op.binOp BinOp.lss 3 (Operand.tmp 39) (Operand.tmp 38) 3), none⟩])
    (.seq (.cond (Operand.tmp 40)
      .skip
      (.exit 0))
    (.seq (.block 1 (.seq (.reg false [⟨some 41, (Op.indexAddr 22 (Operand.tmp 37) (Operand.tmp 39)), none⟩,
      ⟨some 42, (Op.load 3 (Operand.tmp 41)), none⟩,
      ⟨some 10, (Op.assign (Operand.tmp 42)), none⟩])
    (.reg false [⟨some 43, (Op.move (Operand.tmp 8)), none⟩,
      ⟨some 44, (Op.move (Operand.tmp 10)), none⟩,
      ⟨some 45, (Op.binOp BinOp.mul 3 (Operand.tmp 43) (Operand.tmp 44) 3), none⟩,
      ⟨some 8, (Op.assign (Operand.tmp 45)), none⟩])))
    (.reg false [⟨some 46, (Op.binOp BinOp.add 3 (Operand.tmp 39) (Operand.const (Value.int IntKind.i64 1)) 3), none⟩,
      ⟨some 39, (Op.move (Operand.tmp 46)), none⟩])))))))
  (.seq (.reg false [⟨some 47, (Op.move (Operand.tmp 5)), none⟩,
    ⟨some 48, (Op.move (Operand.tmp 4)), none⟩,
    ⟨some 49, (Op.move (Operand.tmp 6)), none⟩,
    ⟨some 50, (Op.call { callee := (Callee.value (Operand.func 19)), args := #[(Operand.tmp 47), (Operand.tmp 48), (Operand.tmp 49)], argTypes := #[22, 22, 22] }), none⟩,
    ⟨some 11, (Op.assign (Operand.tmp 50)), none⟩])
  (.seq (.seq (.reg false [⟨some 12, (Op.assign (Operand.const (Value.int IntKind.i64 0))), none⟩])
  (.block 2 (.loop [4, 5, 6, 7, 8, 11, 12] false
    (.seq (.seq (.reg false [⟨some 51, (Op.move (Operand.tmp 12)), none⟩,
      ⟨some 52, (Op.move (Operand.tmp 4)), none⟩,
      ⟨some 53, (Op.call { callee := (Callee.value (Operand.func 20)), args := #[(Operand.tmp 52)], argTypes := #[22] }), none⟩,
      ⟨some 54, (Op.binOp BinOp.lss 3 (Operand.tmp 51) (Operand.tmp 53) 3), none⟩])
    (.cond (Operand.tmp 54)
      .skip
      (.exit 2)))
    (.seq (.block 3 (.seq (.reg false [⟨some 57, (Op.move (Operand.tmp 5)), none⟩,
      ⟨some 58, (Op.move (Operand.tmp 4)), none⟩,
      ⟨some 59, (Op.move (Operand.tmp 6)), none⟩,
      ⟨some 60, (Op.move (Operand.tmp 12)), none⟩,
      ⟨some 61, (Op.call { callee := (Callee.value (Operand.func 21)), args := #[(Operand.tmp 57), (Operand.tmp 58), (Operand.tmp 59), (Operand.tmp 60)], argTypes := #[22, 22, 22, 3] }), none⟩,
      ⟨some 13, (Op.assign (Operand.tmp 61)), none⟩])
    (.seq (.seq (.reg false [⟨some 62, (Op.move (Operand.tmp 13)), none⟩,
      ⟨some 63, (Op.call { callee := (Callee.builtin Builtin.len), args := #[(Operand.tmp 62)], argTypes := #[22] }), none⟩,
      ⟨some 64, (Op.move (Operand.tmp 5)), none⟩,
      ⟨some 65, (Op.call { callee := (Callee.builtin Builtin.len), args := #[(Operand.tmp 64)], argTypes := #[22] }), none⟩,
      ⟨some 66, (Op.binOp BinOp.neq 3 (Operand.tmp 63) (Operand.tmp 65) 3), none⟩,
      ⟨some 67, (Op.move (Operand.tmp 66)), none⟩,
      ⟨some 68, (Op.move (Operand.tmp 11)), some (67, false)⟩,
      ⟨some 69, (Op.call { callee := (Callee.builtin Builtin.len), args := #[(Operand.tmp 68)], argTypes := #[22] }), some (67, false)⟩,
      ⟨some 70, (Op.move (Operand.tmp 5)), some (67, false)⟩,
      ⟨some 71, (Op.call { callee := (Callee.builtin Builtin.len), args := #[(Operand.tmp 70)], argTypes := #[22] }), some (67, false)⟩,
      ⟨some 72, (Op.binOp BinOp.neq 3 (Operand.tmp 69) (Operand.tmp 71) 3), some (67, false)⟩,
      ⟨some 73, (Op.pick (Operand.tmp 67) (Operand.const (Value.bool true)) (Operand.tmp 72)), none⟩,
      ⟨some 74, (Op.move (Operand.tmp 73)), none⟩,
      ⟨some 75, (Op.move (Operand.tmp 5)), some (74, false)⟩,
      ⟨some 76, (Op.move (Operand.tmp 4)), some (74, false)⟩,
      ⟨some 77, (Op.move (Operand.tmp 6)), some (74, false)⟩,
      ⟨some 78, (Op.move (Operand.tmp 12)), some (74, false)⟩,
      ⟨some 79, (Op.call { callee := (Callee.value (Operand.func 22)), args := #[(Operand.tmp 75), (Operand.tmp 76), (Operand.tmp 77), (Operand.tmp 78)], argTypes := #[22, 22, 22, 3] }), some (74, false)⟩,
      ⟨some 80, (Op.call { callee := (Callee.builtin Builtin.len), args := #[(Operand.tmp 79)], argTypes := #[22] }), some (74, false)⟩,
      ⟨some 81, (Op.move (Operand.tmp 5)), some (74, false)⟩,
      ⟨some 82, (Op.call { callee := (Callee.builtin Builtin.len), args := #[(Operand.tmp 81)], argTypes := #[22] }), some (74, false)⟩,
      ⟨some 83, (Op.binOp BinOp.neq 3 (Operand.tmp 80) (Operand.tmp 82) 3), some (74, false)⟩,
      ⟨some 84, (Op.pick (Operand.tmp 74) (Operand.const (Value.bool true)) (Operand.tmp 83)), none⟩])
    (.cond (Operand.tmp 84)
      (.seq (.reg false [⟨some 2, (Op.assign (Operand.const (Value.bool false))), none⟩])
      .ret)
      .skip))
    (.seq (.reg false [⟨some 14, (Op.assign (Operand.const (Value.int IntKind.i64 1))), none⟩])
    (.seq (.seq (.reg false [⟨some 85, (Op.move (Operand.tmp 13)), none⟩,
      ⟨some 86, (Op.call { callee := (Callee.builtin Builtin.len), args := #[(Operand.tmp 85)], argTypes := #[22] }), none⟩,
      ⟨some 87, (Op.move (Operand.const (Value.int IntKind.i64 0))), none⟩])
    (.block 4 (.loop [4, 5, 6, 7, 8, 11, 12, 13, 14, 86, 87] false
      (.seq (.reg false [⟨some 88, (Op.binOp BinOp.lss 3 (Operand.tmp 87) (Operand.tmp 86) 3), none⟩])
      (.seq (.cond (Operand.tmp 88)
        .skip
        (.exit 4))
      (.seq (.block 5 (.seq (.reg false [⟨some 89, (Op.move (Operand.tmp 87)), none⟩,
        ⟨some 15, (Op.assign (Operand.tmp 89)), none⟩])
      (.seq (.seq (.reg false [⟨some 90, (Op.move (Operand.tmp 13)), none⟩,
        ⟨some 91, (Op.move (Operand.tmp 15)), none⟩,
        ⟨some 92, (Op.indexAddr 22 (Operand.tmp 90) (Operand.tmp 91)), none⟩,
        ⟨some 93, (Op.load 3 (Operand.tmp 92)), none⟩,
        ⟨some 94, (Op.move (Operand.tmp 11)), none⟩,
        ⟨some 95, (Op.move (Operand.tmp 15)), none⟩,
        ⟨some 96, (Op.indexAddr 22 (Operand.tmp 94) (Operand.tmp 95)), none⟩,
        ⟨some 97, (Op.load 3 (Operand.tmp 96)), none⟩,
        ⟨some 98, (Op.binOp BinOp.gtr 3 (Operand.tmp 93) (Operand.tmp 97) 3), none⟩])
      (.cond (Operand.tmp 98)
        (.seq (.reg false [⟨some 2, (Op.assign (Operand.const (Value.bool false))), none⟩])
        .ret)
        .skip))
      (.reg false [⟨some 99, (Op.move (Operand.tmp 14)), none⟩,
        ⟨some 100, (Op.move (Operand.tmp 13)), none⟩,
        ⟨some 101, (Op.move (Operand.tmp 15)), none⟩,
        ⟨some 102, (Op.indexAddr 22 (Operand.tmp 100) (Operand.tmp 101)), none⟩,
        ⟨some 103, (Op.load 3 (Operand.tmp 102)), none⟩,
        ⟨some 104, (Op.binOp BinOp.mul 3 (Operand.tmp 99) (Operand.tmp 103) 3), none⟩,
        ⟨some 14, (Op.assign (Operand.tmp 104)), none⟩]))))
      (.reg false [⟨some 105, (Op.binOp BinOp.add 3 (Operand.tmp 87) (Operand.const (Value.int IntKind.i64 1)) 3), none⟩,
        ⟨some 87, (Op.move (Operand.tmp 105)), none⟩])))))))
    (.reg false [⟨some 106, (Op.move (Operand.tmp 7)), none⟩,
      ⟨some 107, (Op.move (Operand.tmp 14)), none⟩,
      ⟨some 108, (Op.binOp BinOp.add 3 (Operand.tmp 106) (Operand.tmp 107) 3), none⟩,
      ⟨some 7, (Op.assign (Operand.tmp 108)), none⟩]))))))
    (.reg false [⟨some 55, (Op.move (Operand.tmp 12)), none⟩,
      ⟨some 56, (Op.binOp BinOp.add 3 (Operand.tmp 55) (Operand.const (Value.int IntKind.i64 1)) 3), none⟩,
      ⟨some 12, (Op.assign (Operand.tmp 56)), none⟩]))))))
  (.seq (.reg false [⟨some 109, (Op.move (Operand.tmp 7)), none⟩,
    ⟨some 110, (Op.move (Operand.tmp 8)), none⟩,
    ⟨some 111, (Op.move (Operand.tmp 4)), none⟩,
    ⟨some 112, (Op.move (Operand.tmp 6)), none⟩,
    ⟨some 113, (Op.call { callee := (Callee.value (Operand.func 23)), args := #[(Operand.tmp 111), (Operand.tmp 112)], argTypes := #[22, 22] }), none⟩,
    ⟨some 114, (Op.binOp BinOp.mul 3 (Operand.tmp 110) (Operand.tmp 113) 3), none⟩,
    ⟨some 115, (Op.binOp BinOp.eql 3 (Operand.tmp 109) (Operand.tmp 114) 3), none⟩,
    ⟨some 116, (Op.move (Operand.tmp 115)), none⟩,
    ⟨some 117, (Op.call { callee := (Callee.value (Operand.func 24)), args := #[], argTypes := #[] }), some (116, true)⟩,
    ⟨some 118, (Op.pick (Operand.tmp 116) (Operand.tmp 117) (Operand.const (Value.bool false))), none⟩,
    ⟨some 2, (Op.assign (Operand.tmp 118)), none⟩])
  .ret))))))))))
noncomputable def b3 : Code := Try.f3.body.getD .skip
theorem hb3 : Try.f3.body = some b3 := by kernel_rfl
theorem sh3 : shortC A3 b3 = c3 := by kernel_rfl
theorem ok3 : (okSlots Try.f3.ntmps b3 && okRecs A3 b3) = true := by kernel_rfl
def rs3 : List ResultVar := [(ResultVar.tmp 2)]
theorem hr3 : Try.f3.results.toList = rs3 := by kernel_rfl


end Go.Proofs.Ytokadkakmhfdeaa.Pq
