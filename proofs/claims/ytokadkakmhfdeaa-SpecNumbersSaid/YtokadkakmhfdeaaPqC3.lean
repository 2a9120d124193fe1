/- Functions in short form. -/
import Derived.Test.YtokadkakmhfdeaaPqS
import Derived.Test.YtokadkakmhfdeaaPqT
set_option linter.unusedVariables false
namespace Go.Proofs.Ytokadkakmhfdeaa.Pq
open Go.RowKit

/-! parquetry/mesh.At (2 parameters; calls 88 parquetry/mesh.Devices) -/
def A123 : Ann := { live := fun i => if i = 5 then [0, 1, 5, 6] else [], drop := fun i => false }
noncomputable def c123 : Cc :=
  (.seq (.reg false [⟨some 4, (Op.assign (Operand.const (Value.slice none 0 0))), none⟩])
  (.seq (.seq (.reg false [⟨some 7, (Op.move (Operand.tmp 1)), none⟩,
    ⟨some 8, (Op.binOp BinOp.lss 3 (Operand.tmp 7) (Operand.const (Value.int IntKind.i64 0)) 3), none⟩,
    ⟨some 9, (Op.move (Operand.tmp 8)), none⟩,
    ⟨some 10, (Op.move (Operand.tmp 1)), some (9, false)⟩,
    ⟨some 11, (Op.move (Operand.tmp 0)), some (9, false)⟩,
    ⟨some 12, (Op.call { callee := (Callee.value (Operand.func 88)), args := #[(Operand.tmp 11)], argTypes := #[22] }), some (9, false)⟩,
    ⟨some 13, (Op.binOp BinOp.geq 3 (Operand.tmp 10) (Operand.tmp 12) 3), some (9, false)⟩,
    ⟨some 14, (Op.pick (Operand.tmp 9) (Operand.const (Value.bool true)) (Operand.tmp 13)), none⟩])
  (.cond (Operand.tmp 14)
    (.seq (.reg false [⟨some 4, (Op.assign (Operand.const (Value.slice none 0 0))), none⟩])
    .ret)
    .skip))
  (.seq (.reg false [⟨some 15, (Op.move (Operand.tmp 0)), none⟩,
    ⟨some 16, (Op.call { callee := (Callee.builtin Builtin.len), args := #[(Operand.tmp 15)], argTypes := #[22] }), none⟩,
    ⟨some 17, (Op.makeSlice 22 (Operand.tmp 16) (Operand.tmp 16)), none⟩,
    ⟨some 5, (Op.assign (Operand.tmp 17)), none⟩])
  (.seq (.seq (.reg false [⟨some 18, (Op.move (Operand.tmp 0)), none⟩,
    ⟨some 19, (Op.call { callee := (Callee.builtin Builtin.len), args := #[(Operand.tmp 18)], argTypes := #[22] }), none⟩,
    ⟨some 20, (Op.binOp BinOp.sub 3 (Operand.tmp 19) (Operand.const (Value.int IntKind.i64 1)) 3), none⟩,
    ⟨some 6, (Op.assign (Operand.tmp 20)), none⟩])
  (.block 0 (.loop [0, 1, 5, 6] false
    (.seq (.seq (.reg false [⟨some 21, (Op.move (Operand.tmp 6)), none⟩,
      ⟨some 22, (Op.binOp BinOp.geq 3 (Operand.tmp 21) (Operand.const (Value.int IntKind.i64 0)) 3), none⟩])
    (.cond (Operand.tmp 22)
      .skip
      (.exit 0)))
    (.seq (.block 1 (.seq (.reg false [⟨some 25, (Op.move (Operand.tmp 5)), none⟩,
      ⟨some 26, (Op.move (Operand.tmp 6)), none⟩,
      ⟨some 27, (Op.move (Operand.tmp 1)), none⟩,
      ⟨some 28, (Op.move (Operand.tmp 0)), none⟩,
      ⟨some 29, (Op.move (Operand.tmp 6)), none⟩,
      ⟨some 30, (Op.indexAddr 22 (Operand.tmp 28) (Operand.tmp 29)), none⟩,
      ⟨some 31, (Op.load 3 (Operand.tmp 30)), none⟩,
      ⟨some 32, (Op.binOp BinOp.rem 3 (Operand.tmp 27) (Operand.tmp 31) 3), none⟩,
      ⟨some 33, (Op.indexAddr 22 (Operand.tmp 25) (Operand.tmp 26)), none⟩,
      ⟨none, (Op.store 3 (Operand.tmp 33) (Operand.tmp 32)), none⟩])
    (.reg false [⟨some 34, (Op.move (Operand.tmp 1)), none⟩,
      ⟨some 35, (Op.move (Operand.tmp 0)), none⟩,
      ⟨some 36, (Op.move (Operand.tmp 6)), none⟩,
      ⟨some 37, (Op.indexAddr 22 (Operand.tmp 35) (Operand.tmp 36)), none⟩,
      ⟨some 38, (Op.load 3 (Operand.tmp 37)), none⟩,
      ⟨some 39, (Op.binOp BinOp.quo 3 (Operand.tmp 34) (Operand.tmp 38) 3), none⟩,
      ⟨some 1, (Op.assign (Operand.tmp 39)), none⟩])))
    (.reg false [⟨some 23, (Op.move (Operand.tmp 6)), none⟩,
      ⟨some 24, (Op.binOp BinOp.sub 3 (Operand.tmp 23) (Operand.const (Value.int IntKind.i64 1)) 3), none⟩,
      ⟨some 6, (Op.assign (Operand.tmp 24)), none⟩]))))))
  (.seq (.reg false [⟨some 40, (Op.move (Operand.tmp 5)), none⟩,
    ⟨some 4, (Op.assign (Operand.tmp 40)), none⟩])
  .ret)))))
noncomputable def b123 : Code := Try.f123.body.getD .skip
theorem hb123 : Try.f123.body = some b123 := by kernel_rfl
theorem sh123 : shortC A123 b123 = c123 := by kernel_rfl
theorem ok123 : (okSlots Try.f123.ntmps b123 && okRecs A123 b123) = true := by kernel_rfl
def rs123 : List ResultVar := [(ResultVar.tmp 4)]
theorem hr123 : Try.f123.results.toList = rs123 := by kernel_rfl

/-! parquetry/tile.cuts (4 parameters; calls 60 parquetry/tile.Cut, 63 parquetry/spec.Right, 88 parquetry/mesh.Devices, 90 parquetry/shape.Right, 123 parquetry/mesh.At) -/
def A57 : Ann := { recs := fun i => if i = 10 then [(15, 18)] else [], live := fun i => if i = 6 then [0, 1, 10, 11, 39, 40, 41] else [], drop := fun i => false }
noncomputable def c57 : Cc :=
  (.seq (.reg false [⟨some 8, (Op.assign (Operand.const (Value.slice none 0 0))), none⟩,
    ⟨some 9, (Op.assign (Operand.const (Value.bool false))), none⟩])
  (.seq (.seq (.reg false [⟨some 15, (Op.move (Operand.tmp 0)), none⟩,
    ⟨some 16, (Op.call { callee := (Callee.value (Operand.func 90)), args := #[(Operand.tmp 15)], argTypes := #[22] }), none⟩,
    ⟨some 17, (Op.unOp UnOp.not 4 (Operand.tmp 16)), none⟩,
    ⟨some 18, (Op.move (Operand.tmp 17)), none⟩,
    ⟨some 19, (Op.move (Operand.tmp 1)), some (18, false)⟩,
    ⟨some 20, (Op.move (Operand.tmp 2)), some (18, false)⟩,
    ⟨some 21, (Op.move (Operand.tmp 0)), some (18, false)⟩,
    ⟨some 22, (Op.call { callee := (Callee.builtin Builtin.len), args := #[(Operand.tmp 21)], argTypes := #[22] }), some (18, false)⟩,
    ⟨some 23, (Op.call { callee := (Callee.value (Operand.func 63)), args := #[(Operand.tmp 19), (Operand.tmp 20), (Operand.tmp 22)], argTypes := #[22, 22, 3] }), some (18, false)⟩,
    ⟨some 24, (Op.unOp UnOp.not 4 (Operand.tmp 23)), some (18, false)⟩,
    ⟨some 25, (Op.pick (Operand.tmp 18) (Operand.const (Value.bool true)) (Operand.tmp 24)), none⟩,
    ⟨some 26, (Op.move (Operand.tmp 25)), none⟩,
    ⟨some 27, (Op.move (Operand.tmp 3)), some (26, false)⟩,
    ⟨some 28, (Op.binOp BinOp.lss 3 (Operand.tmp 27) (Operand.const (Value.int IntKind.i64 0)) 3), some (26, false)⟩,
    ⟨some 29, (Op.pick (Operand.tmp 26) (Operand.const (Value.bool true)) (Operand.tmp 28)), none⟩,
    ⟨some 30, (Op.move (Operand.tmp 29)), none⟩,
    ⟨some 31, (Op.move (Operand.tmp 3)), some (30, false)⟩,
    ⟨some 32, (Op.move (Operand.tmp 1)), some (30, false)⟩,
    ⟨some 33, (Op.call { callee := (Callee.value (Operand.func 88)), args := #[(Operand.tmp 32)], argTypes := #[22] }), some (30, false)⟩,
    ⟨some 34, (Op.binOp BinOp.geq 3 (Operand.tmp 31) (Operand.tmp 33) 3), some (30, false)⟩,
    ⟨some 35, (Op.pick (Operand.tmp 30) (Operand.const (Value.bool true)) (Operand.tmp 34)), none⟩])
  (.cond (Operand.tmp 35)
    (.seq (.reg false [⟨some 8, (Op.assign (Operand.const (Value.slice none 0 0))), none⟩,
      ⟨some 9, (Op.assign (Operand.const (Value.bool false))), none⟩])
    .ret)
    .skip))
  (.seq (.reg false [⟨some 36, (Op.move (Operand.tmp 1)), none⟩,
    ⟨some 37, (Op.move (Operand.tmp 3)), none⟩,
    ⟨some 38, (Op.call { callee := (Callee.value (Operand.func 123)), args := #[(Operand.tmp 36), (Operand.tmp 37)], argTypes := #[22, 3] }), none⟩,
    ⟨some 10, (Op.assign (Operand.tmp 38)), none⟩])
  (.seq (.reg false [⟨some 11, (Op.assign (Operand.const (Value.slice none 0 0))), none⟩])
  (.seq (.seq (.reg false [⟨some 39, (Op.move (Operand.tmp 2)), none⟩,
    ⟨some 40, (Op.call { callee := (Callee.builtin Builtin.len), args := #[(Operand.tmp 39)], argTypes := #[22] }), none⟩,
    ⟨some 41, (Op.move (Operand.const (Value.int IntKind.i64 0))), none⟩])
  (.block 0 (.loop [0, 1, 10, 11, 39, 40, 41] false
    (.seq (.reg false [⟨some 42, (Op.binOp BinOp.lss 3 (Operand.tmp 41) (Operand.tmp 40) 3), none⟩])
    (.seq (.cond (Operand.tmp 42)
      .skip
      (.exit 0))
    (.seq (.block 1 (.seq (.reg false [⟨some 43, (Op.move (Operand.tmp 41)), none⟩,
      ⟨some 44, (Op.indexAddr 22 (Operand.tmp 39) (Operand.tmp 41)), none⟩,
      ⟨some 45, (Op.load 3 (Operand.tmp 44)), none⟩,
      ⟨some 12, (Op.assign (Operand.tmp 43)), none⟩,
      ⟨some 13, (Op.assign (Operand.tmp 45)), none⟩])
    (.seq (.reg false [⟨some 46, (Op.move (Operand.tmp 0)), none⟩,
      ⟨some 47, (Op.move (Operand.tmp 12)), none⟩,
      ⟨some 48, (Op.indexAddr 22 (Operand.tmp 46) (Operand.tmp 47)), none⟩,
      ⟨some 49, (Op.load 3 (Operand.tmp 48)), none⟩,
      ⟨some 50, (Op.build 86 #[(0, (Operand.const (Value.int IntKind.i64 0))), (1, (Operand.tmp 49))]), none⟩,
      ⟨some 14, (Op.alloc 86), none⟩,
      ⟨none, (Op.store 86 (Operand.tmp 14) (Operand.tmp 50)), none⟩])
    (.seq (.seq (.reg false [⟨some 51, (Op.move (Operand.tmp 13)), none⟩,
      ⟨some 52, (Op.binOp BinOp.geq 3 (Operand.tmp 51) (Operand.const (Value.int IntKind.i64 0)) 3), none⟩])
    (.cond (Operand.tmp 52)
      (.reg false [⟨some 54, (Op.move (Operand.tmp 0)), none⟩,
        ⟨some 55, (Op.move (Operand.tmp 12)), none⟩,
        ⟨some 56, (Op.indexAddr 22 (Operand.tmp 54) (Operand.tmp 55)), none⟩,
        ⟨some 57, (Op.load 3 (Operand.tmp 56)), none⟩,
        ⟨some 58, (Op.move (Operand.tmp 1)), none⟩,
        ⟨some 59, (Op.move (Operand.tmp 13)), none⟩,
        ⟨some 60, (Op.indexAddr 22 (Operand.tmp 58) (Operand.tmp 59)), none⟩,
        ⟨some 61, (Op.load 3 (Operand.tmp 60)), none⟩,
        ⟨some 62, (Op.move (Operand.tmp 10)), none⟩,
        ⟨some 63, (Op.move (Operand.tmp 13)), none⟩,
        ⟨some 64, (Op.indexAddr 22 (Operand.tmp 62) (Operand.tmp 63)), none⟩,
        ⟨some 65, (Op.load 3 (Operand.tmp 64)), none⟩,
        ⟨some 66, (Op.call { callee := (Callee.value (Operand.func 60)), args := #[(Operand.tmp 57), (Operand.tmp 61), (Operand.tmp 65)], argTypes := #[3, 3, 3] }), none⟩,
        ⟨some 53, (Op.move (Operand.tmp 66)), none⟩,
        ⟨some 67, (Op.extract (Operand.tmp 53) 0), none⟩,
        ⟨some 68, (Op.extract (Operand.tmp 53) 1), none⟩,
        ⟨some 69, (Op.indexAddr 86 (Operand.tmp 14) (Operand.const (Value.int IntKind.i64 0))), none⟩,
        ⟨none, (Op.store 3 (Operand.tmp 69) (Operand.tmp 67)), none⟩,
        ⟨some 70, (Op.indexAddr 86 (Operand.tmp 14) (Operand.const (Value.int IntKind.i64 1))), none⟩,
        ⟨none, (Op.store 3 (Operand.tmp 70) (Operand.tmp 68)), none⟩])
      .skip))
    (.reg false [⟨some 71, (Op.move (Operand.tmp 11)), none⟩,
      ⟨some 72, (Op.load 86 (Operand.tmp 14)), none⟩,
      ⟨some 73, (Op.buildSlice 83 1 #[(0, (Operand.tmp 72))]), none⟩,
      ⟨some 74, (Op.call { callee := (Callee.builtin Builtin.append), args := #[(Operand.tmp 71), (Operand.tmp 73)], argTypes := #[83, 83] }), none⟩,
      ⟨some 11, (Op.assign (Operand.tmp 74)), none⟩])))))
    (.reg false [⟨some 75, (Op.binOp BinOp.add 3 (Operand.tmp 41) (Operand.const (Value.int IntKind.i64 1)) 3), none⟩,
      ⟨some 41, (Op.move (Operand.tmp 75)), none⟩])))))))
  (.seq (.reg false [⟨some 76, (Op.move (Operand.tmp 11)), none⟩,
    ⟨some 8, (Op.assign (Operand.tmp 76)), none⟩,
    ⟨some 9, (Op.assign (Operand.const (Value.bool true))), none⟩])
  .ret))))))
noncomputable def b57 : Code := Try.f57.body.getD .skip
theorem hb57 : Try.f57.body = some b57 := by kernel_rfl
theorem sh57 : shortC A57 b57 = c57 := by kernel_rfl
theorem ok57 : (okSlots Try.f57.ntmps b57 && okRecs A57 b57) = true := by kernel_rfl
def rs57 : List ResultVar := [(ResultVar.tmp 8), (ResultVar.tmp 9)]
theorem hr57 : Try.f57.results.toList = rs57 := by kernel_rfl

/-! parquetry/tile.Size (4 parameters; calls 57 parquetry/tile.cuts) -/
def A21 : Ann := { live := fun i => if i = 4 then [11, 22, 23, 24] else [], drop := fun i => false }
noncomputable def c21 : Cc :=
  (.seq (.reg false [⟨some 8, (Op.assign (Operand.const (Value.slice none 0 0))), none⟩])
  (.seq (.reg false [⟨some 15, (Op.move (Operand.tmp 0)), none⟩,
    ⟨some 16, (Op.move (Operand.tmp 1)), none⟩,
    ⟨some 17, (Op.move (Operand.tmp 2)), none⟩,
    ⟨some 18, (Op.move (Operand.tmp 3)), none⟩,
    ⟨some 19, (Op.call { callee := (Callee.value (Operand.func 57)), args := #[(Operand.tmp 15), (Operand.tmp 16), (Operand.tmp 17), (Operand.tmp 18)], argTypes := #[22, 22, 22, 3] }), none⟩,
    ⟨some 14, (Op.move (Operand.tmp 19)), none⟩,
    ⟨some 20, (Op.extract (Operand.tmp 14) 0), none⟩,
    ⟨some 21, (Op.extract (Operand.tmp 14) 1), none⟩,
    ⟨some 9, (Op.assign (Operand.tmp 20)), none⟩,
    ⟨some 10, (Op.assign (Operand.tmp 21)), none⟩])
  (.seq (.reg false [⟨some 11, (Op.assign (Operand.const (Value.slice none 0 0))), none⟩])
  (.seq (.seq (.reg false [⟨some 22, (Op.move (Operand.tmp 9)), none⟩,
    ⟨some 23, (Op.call { callee := (Callee.builtin Builtin.len), args := #[(Operand.tmp 22)], argTypes := #[83] }), none⟩,
    ⟨some 24, (Op.move (Operand.const (Value.int IntKind.i64 0))), none⟩])
  (.block 0 (.loop [11, 22, 23, 24] false
    (.seq (.reg false [⟨some 25, (Op.binOp BinOp.lss 3 (Operand.tmp 24) (Operand.tmp 23) 3), none⟩])
    (.seq (.cond (Operand.tmp 25)
      .skip
      (.exit 0))
    (.seq (.block 1 (.seq (.reg false [⟨some 26, (Op.indexAddr 83 (Operand.tmp 22) (Operand.tmp 24)), none⟩,
      ⟨some 27, (Op.load 86 (Operand.tmp 26)), none⟩,
      ⟨some 13, (Op.alloc 86), none⟩,
      ⟨none, (Op.store 86 (Operand.tmp 13) (Operand.tmp 27)), none⟩])
    (.reg false [⟨some 28, (Op.move (Operand.tmp 11)), none⟩,
      ⟨some 29, (Op.indexAddr 86 (Operand.tmp 13) (Operand.const (Value.int IntKind.i64 1))), none⟩,
      ⟨some 30, (Op.load 3 (Operand.tmp 29)), none⟩,
      ⟨some 31, (Op.indexAddr 86 (Operand.tmp 13) (Operand.const (Value.int IntKind.i64 0))), none⟩,
      ⟨some 32, (Op.load 3 (Operand.tmp 31)), none⟩,
      ⟨some 33, (Op.binOp BinOp.sub 3 (Operand.tmp 30) (Operand.tmp 32) 3), none⟩,
      ⟨some 34, (Op.buildSlice 22 1 #[(0, (Operand.tmp 33))]), none⟩,
      ⟨some 35, (Op.call { callee := (Callee.builtin Builtin.append), args := #[(Operand.tmp 28), (Operand.tmp 34)], argTypes := #[22, 22] }), none⟩,
      ⟨some 11, (Op.assign (Operand.tmp 35)), none⟩])))
    (.reg false [⟨some 36, (Op.binOp BinOp.add 3 (Operand.tmp 24) (Operand.const (Value.int IntKind.i64 1)) 3), none⟩,
      ⟨some 24, (Op.move (Operand.tmp 36)), none⟩])))))))
  (.seq (.reg false [⟨some 37, (Op.move (Operand.tmp 11)), none⟩,
    ⟨some 8, (Op.assign (Operand.tmp 37)), none⟩])
  .ret)))))
noncomputable def b21 : Code := Try.f21.body.getD .skip
theorem hb21 : Try.f21.body = some b21 := by kernel_rfl
theorem sh21 : shortC A21 b21 = c21 := by kernel_rfl
theorem ok21 : (okSlots Try.f21.ntmps b21 && okRecs A21 b21) = true := by kernel_rfl
def rs21 : List ResultVar := [(ResultVar.tmp 8)]
theorem hr21 : Try.f21.results.toList = rs21 := by kernel_rfl

/-! parquetry/tile.From (4 parameters; calls 57 parquetry/tile.cuts) -/
def A22 : Ann := { live := fun i => if i = 4 then [11, 22, 23, 24] else [], drop := fun i => false }
noncomputable def c22 : Cc :=
  (.seq (.reg false [⟨some 8, (Op.assign (Operand.const (Value.slice none 0 0))), none⟩])
  (.seq (.reg false [⟨some 15, (Op.move (Operand.tmp 0)), none⟩,
    ⟨some 16, (Op.move (Operand.tmp 1)), none⟩,
    ⟨some 17, (Op.move (Operand.tmp 2)), none⟩,
    ⟨some 18, (Op.move (Operand.tmp 3)), none⟩,
    ⟨some 19, (Op.call { callee := (Callee.value (Operand.func 57)), args := #[(Operand.tmp 15), (Operand.tmp 16), (Operand.tmp 17), (Operand.tmp 18)], argTypes := #[22, 22, 22, 3] }), none⟩,
    ⟨some 14, (Op.move (Operand.tmp 19)), none⟩,
    ⟨some 20, (Op.extract (Operand.tmp 14) 0), none⟩,
    ⟨some 21, (Op.extract (Operand.tmp 14) 1), none⟩,
    ⟨some 9, (Op.assign (Operand.tmp 20)), none⟩,
    ⟨some 10, (Op.assign (Operand.tmp 21)), none⟩])
  (.seq (.reg false [⟨some 11, (Op.assign (Operand.const (Value.slice none 0 0))), none⟩])
  (.seq (.seq (.reg false [⟨some 22, (Op.move (Operand.tmp 9)), none⟩,
    ⟨some 23, (Op.call { callee := (Callee.builtin Builtin.len), args := #[(Operand.tmp 22)], argTypes := #[83] }), none⟩,
    ⟨some 24, (Op.move (Operand.const (Value.int IntKind.i64 0))), none⟩])
  (.block 0 (.loop [11, 22, 23, 24] false
    (.seq (.reg false [⟨some 25, (Op.binOp BinOp.lss 3 (Operand.tmp 24) (Operand.tmp 23) 3), none⟩])
    (.seq (.cond (Operand.tmp 25)
      .skip
      (.exit 0))
    (.seq (.block 1 (.seq (.reg false [⟨some 26, (Op.indexAddr 83 (Operand.tmp 22) (Operand.tmp 24)), none⟩,
      ⟨some 27, (Op.load 86 (Operand.tmp 26)), none⟩,
      ⟨some 13, (Op.alloc 86), none⟩,
      ⟨none, (Op.store 86 (Operand.tmp 13) (Operand.tmp 27)), none⟩])
    (.reg false [⟨some 28, (Op.move (Operand.tmp 11)), none⟩,
      ⟨some 29, (Op.indexAddr 86 (Operand.tmp 13) (Operand.const (Value.int IntKind.i64 0))), none⟩,
      ⟨some 30, (Op.load 3 (Operand.tmp 29)), none⟩,
      ⟨some 31, (Op.buildSlice 22 1 #[(0, (Operand.tmp 30))]), none⟩,
      ⟨some 32, (Op.call { callee := (Callee.builtin Builtin.append), args := #[(Operand.tmp 28), (Operand.tmp 31)], argTypes := #[22, 22] }), none⟩,
      ⟨some 11, (Op.assign (Operand.tmp 32)), none⟩])))
    (.reg false [⟨some 33, (Op.binOp BinOp.add 3 (Operand.tmp 24) (Operand.const (Value.int IntKind.i64 1)) 3), none⟩,
      ⟨some 24, (Op.move (Operand.tmp 33)), none⟩])))))))
  (.seq (.reg false [⟨some 34, (Op.move (Operand.tmp 11)), none⟩,
    ⟨some 8, (Op.assign (Operand.tmp 34)), none⟩])
  .ret)))))
noncomputable def b22 : Code := Try.f22.body.getD .skip
theorem hb22 : Try.f22.body = some b22 := by kernel_rfl
theorem sh22 : shortC A22 b22 = c22 := by kernel_rfl
theorem ok22 : (okSlots Try.f22.ntmps b22 && okRecs A22 b22) = true := by kernel_rfl
def rs22 : List ResultVar := [(ResultVar.tmp 8)]
theorem hr22 : Try.f22.results.toList = rs22 := by kernel_rfl

/-! parquetry/tile.Most (3 parameters; calls 21 parquetry/tile.Size) -/
def A19 : Ann := { drop := fun i => false }
noncomputable def c19 : Cc :=
  (.seq (.reg false [⟨some 6, (Op.assign (Operand.const (Value.slice none 0 0))), none⟩])
  (.seq (.reg false [⟨some 7, (Op.move (Operand.tmp 0)), none⟩,
    ⟨some 8, (Op.move (Operand.tmp 1)), none⟩,
    ⟨some 9, (Op.move (Operand.tmp 2)), none⟩,
    ⟨some 10, (Op.call { callee := (Callee.value (Operand.func 21)), args := #[(Operand.tmp 7), (Operand.tmp 8), (Operand.tmp 9), (Operand.const (Value.int IntKind.i64 0))], argTypes := #[22, 22, 22, 3] }), none⟩,
    ⟨some 6, (Op.assign (Operand.tmp 10)), none⟩])
  .ret))
noncomputable def b19 : Code := Try.f19.body.getD .skip
theorem hb19 : Try.f19.body = some b19 := by kernel_rfl
theorem sh19 : shortC A19 b19 = c19 := by kernel_rfl
theorem ok19 : (okSlots Try.f19.ntmps b19 && okRecs A19 b19) = true := by kernel_rfl
def rs19 : List ResultVar := [(ResultVar.tmp 6)]
theorem hr19 : Try.f19.results.toList = rs19 := by kernel_rfl

/-! parquetry/parquetrybook.Same[int] (2 parameters; calls none) -/
def A62 : Ann := { live := fun i => if i = 4 then [0, 1, 5] else [], drop := fun i => false }
noncomputable def c62 : Cc :=
  (.seq (.reg false [⟨some 4, (Op.assign (Operand.const (Value.bool false))), none⟩])
  (.seq (.seq (.reg false [⟨some 6, (Op.move (Operand.tmp 0)), none⟩,
    ⟨some 7, (Op.call { callee := (Callee.builtin Builtin.len), args := #[(Operand.tmp 6)], argTypes := #[22] }), none⟩,
    ⟨some 8, (Op.move (Operand.tmp 1)), none⟩,
    ⟨some 9, (Op.call { callee := (Callee.builtin Builtin.len), args := #[(Operand.tmp 8)], argTypes := #[22] }), none⟩,
    ⟨some 10, (Op.binOp BinOp.neq 3 (Operand.tmp 7) (Operand.tmp 9) 3), none⟩])
  (.cond (Operand.tmp 10)
    (.seq (.reg false [⟨some 4, (Op.assign (Operand.const (Value.bool false))), none⟩])
    .ret)
    .skip))
  (.seq (.seq (.reg false [⟨some 5, (Op.assign (Operand.const (Value.int IntKind.i64 0))), none⟩])
  (.block 0 (.loop [0, 1, 5] false
    (.seq (.seq (.reg false [⟨some 11, (Op.move (Operand.tmp 5)), none⟩,
      ⟨some 12, (Op.move (Operand.tmp 0)), none⟩,
      ⟨some 13, (Op.call { callee := (Callee.builtin Builtin.len), args := #[(Operand.tmp 12)], argTypes := #[22] }), none⟩,
      ⟨some 14, (Op.binOp BinOp.lss 3 (Operand.tmp 11) (Operand.tmp 13) 3), none⟩])
    (.cond (Operand.tmp 14)
      .skip
      (.exit 0)))
    (.seq (.block 1 (.seq (.reg false [⟨some 17, (Op.move (Operand.tmp 0)), none⟩,
      ⟨some 18, (Op.move (Operand.tmp 5)), none⟩,
      ⟨some 19, (Op.indexAddr 22 (Operand.tmp 17) (Operand.tmp 18)), none⟩,
      ⟨some 20, (Op.load 3 (Operand.tmp 19)), none⟩,
      ⟨some 21, (Op.move (Operand.tmp 1)), none⟩,
      ⟨some 22, (Op.move (Operand.tmp 5)), none⟩,
      ⟨some 23, (Op.indexAddr 22 (Operand.tmp 21) (Operand.tmp 22)), none⟩,
      ⟨some 24, (Op.load 3 (Operand.tmp 23)), none⟩,
      ⟨some 25, (Op.binOp BinOp.neq 3 (Operand.tmp 20) (Operand.tmp 24) 3), none⟩])
    (.cond (Operand.tmp 25)
      (.seq (.reg false [⟨some 4, (Op.assign (Operand.const (Value.bool false))), none⟩])
      .ret)
      .skip)))
    (.reg false [⟨some 15, (Op.move (Operand.tmp 5)), none⟩,
      ⟨some 16, (Op.binOp BinOp.add 3 (Operand.tmp 15) (Operand.const (Value.int IntKind.i64 1)) 3), none⟩,
      ⟨some 5, (Op.assign (Operand.tmp 16)), none⟩]))))))
  (.seq (.reg false [⟨some 4, (Op.assign (Operand.const (Value.bool true))), none⟩])
  .ret))))
noncomputable def b62 : Code := Try.f62.body.getD .skip
theorem hb62 : Try.f62.body = some b62 := by kernel_rfl
theorem sh62 : shortC A62 b62 = c62 := by kernel_rfl
theorem ok62 : (okSlots Try.f62.ntmps b62 && okRecs A62 b62) = true := by kernel_rfl
def rs62 : List ResultVar := [(ResultVar.tmp 4)]
theorem hr62 : Try.f62.results.toList = rs62 := by kernel_rfl

/-! parquetry/parquetrylaw16.known (0 parameters; calls 19 parquetry/tile.Most, 21 parquetry/tile.Size, 22 parquetry/tile.From, 60 parquetry/tile.Cut, 61 parquetry/tile.Width, 62 parquetry/parquetrybook.Same[int]) -/
def A24 : Ann := { drop := fun i => false }
noncomputable def c24 : Cc :=
  (.seq (.reg false [⟨some 0, (Op.assign (Operand.const (Value.bool false))), none⟩])
  (.seq (.reg false [⟨some 6, (Op.call { callee := (Callee.value (Operand.func 60)), args := #[(Operand.const (Value.int IntKind.i64 5)), (Operand.const (Value.int IntKind.i64 2)), (Operand.const (Value.int IntKind.i64 1))], argTypes := #[3, 3, 3] }), none⟩,
    ⟨some 5, (Op.move (Operand.tmp 6)), none⟩,
    ⟨some 7, (Op.extract (Operand.tmp 5) 0), none⟩,
    ⟨some 8, (Op.extract (Operand.tmp 5) 1), none⟩,
    ⟨some 1, (Op.assign (Operand.tmp 7)), none⟩,
    ⟨some 2, (Op.assign (Operand.tmp 8)), none⟩])
  (.seq (.reg false [⟨some 10, (Op.call { callee := (Callee.value (Operand.func 60)), args := #[(Operand.const (Value.int IntKind.i64 2)), (Operand.const (Value.int IntKind.i64 4)), (Operand.const (Value.int IntKind.i64 3))], argTypes := #[3, 3, 3] }), none⟩,
    ⟨some 9, (Op.move (Operand.tmp 10)), none⟩,
    ⟨some 11, (Op.extract (Operand.tmp 9) 0), none⟩,
    ⟨some 12, (Op.extract (Operand.tmp 9) 1), none⟩,
    ⟨some 3, (Op.assign (Operand.tmp 11)), none⟩,
    ⟨some 4, (Op.assign (Operand.tmp 12)), none⟩])
  (.seq (.reg false [⟨some 13, (Op.move (Operand.tmp 1)), none⟩,
    ⟨some 14, (Op.binOp BinOp.eql 3 (Operand.tmp 13) (Operand.const (Value.int IntKind.i64 3)) 3), none⟩,
    ⟨some 15, (Op.move (Operand.tmp 14)), none⟩,
    ⟨some 16, (Op.move (Operand.tmp 2)), some (15, true)⟩,
    ⟨some 17, (Op.binOp BinOp.eql 3 (Operand.tmp 16) (Operand.const (Value.int IntKind.i64 5)) 3), some (15, true)⟩,
    ⟨some 18, (Op.pick (Operand.tmp 15) (Operand.tmp 17) (Operand.const (Value.bool false))), none⟩,
    ⟨some 19, (Op.move (Operand.tmp 18)), none⟩,
    ⟨some 20, (Op.move (Operand.tmp 3)), some (19, true)⟩,
    ⟨some 21, (Op.binOp BinOp.eql 3 (Operand.tmp 20) (Operand.const (Value.int IntKind.i64 2)) 3), some (19, true)⟩,
    ⟨some 22, (Op.pick (Operand.tmp 19) (Operand.tmp 21) (Operand.const (Value.bool false))), none⟩,
    ⟨some 23, (Op.move (Operand.tmp 22)), none⟩,
    ⟨some 24, (Op.move (Operand.tmp 4)), some (23, true)⟩,
    ⟨some 25, (Op.binOp BinOp.eql 3 (Operand.tmp 24) (Operand.const (Value.int IntKind.i64 2)) 3), some (23, true)⟩,
    ⟨some 26, (Op.pick (Operand.tmp 23) (Operand.tmp 25) (Operand.const (Value.bool false))), none⟩,
    ⟨some 27, (Op.move (Operand.tmp 26)), none⟩,
    ⟨some 28, (Op.call { callee := (Callee.value (Operand.func 61)), args := #[(Operand.const (Value.int IntKind.i64 5)), (Operand.const (Value.int IntKind.i64 2))], argTypes := #[3, 3] }), some (27, true)⟩,
    ⟨some 29, (Op.binOp BinOp.eql 3 (Operand.tmp 28) (Operand.const (Value.int IntKind.i64 3)) 3), some (27, true)⟩,
    ⟨some 30, (Op.pick (Operand.tmp 27) (Operand.tmp 29) (Operand.const (Value.bool false))), none⟩,
    ⟨some 31, (Op.move (Operand.tmp 30)), none⟩,
    ⟨some 32, (Op.buildSlice 22 1 #[(0, (Operand.const (Value.int IntKind.i64 5)))]), some (31, true)⟩,
    ⟨some 33, (Op.buildSlice 22 1 #[(0, (Operand.const (Value.int IntKind.i64 2)))]), some (31, true)⟩,
    ⟨some 34, (Op.buildSlice 22 1 #[(0, (Operand.const (Value.int IntKind.i64 0)))]), some (31, true)⟩,
    ⟨some 35, (Op.call { callee := (Callee.value (Operand.func 21)), args := #[(Operand.tmp 32), (Operand.tmp 33), (Operand.tmp 34), (Operand.const (Value.int IntKind.i64 1))], argTypes := #[22, 22, 22, 3] }), some (31, true)⟩,
    ⟨some 36, (Op.buildSlice 22 1 #[(0, (Operand.const (Value.int IntKind.i64 2)))]), some (31, true)⟩,
    ⟨some 37, (Op.call { callee := (Callee.value (Operand.func 62)), args := #[(Operand.tmp 35), (Operand.tmp 36)], argTypes := #[22, 22] }), some (31, true)⟩,
    ⟨some 38, (Op.pick (Operand.tmp 31) (Operand.tmp 37) (Operand.const (Value.bool false))), none⟩,
    ⟨some 39, (Op.move (Operand.tmp 38)), none⟩,
    ⟨some 40, (Op.buildSlice 22 1 #[(0, (Operand.const (Value.int IntKind.i64 5)))]), some (39, true)⟩,
    ⟨some 41, (Op.buildSlice 22 1 #[(0, (Operand.const (Value.int IntKind.i64 2)))]), some (39, true)⟩,
    ⟨some 42, (Op.buildSlice 22 1 #[(0, (Operand.const (Value.int IntKind.i64 0)))]), some (39, true)⟩,
    ⟨some 43, (Op.call { callee := (Callee.value (Operand.func 22)), args := #[(Operand.tmp 40), (Operand.tmp 41), (Operand.tmp 42), (Operand.const (Value.int IntKind.i64 1))], argTypes := #[22, 22, 22, 3] }), some (39, true)⟩,
    ⟨some 44, (Op.buildSlice 22 1 #[(0, (Operand.const (Value.int IntKind.i64 3)))]), some (39, true)⟩,
    ⟨some 45, (Op.call { callee := (Callee.value (Operand.func 62)), args := #[(Operand.tmp 43), (Operand.tmp 44)], argTypes := #[22, 22] }), some (39, true)⟩,
    ⟨some 46, (Op.pick (Operand.tmp 39) (Operand.tmp 45) (Operand.const (Value.bool false))), none⟩,
    ⟨some 47, (Op.move (Operand.tmp 46)), none⟩,
    ⟨some 48, (Op.buildSlice 22 1 #[(0, (Operand.const (Value.int IntKind.i64 5)))]), some (47, true)⟩,
    ⟨some 49, (Op.buildSlice 22 1 #[(0, (Operand.const (Value.int IntKind.i64 2)))]), some (47, true)⟩,
    ⟨some 50, (Op.buildSlice 22 1 #[(0, (Operand.const (Value.int IntKind.i64 0)))]), some (47, true)⟩,
    ⟨some 51, (Op.call { callee := (Callee.value (Operand.func 19)), args := #[(Operand.tmp 48), (Operand.tmp 49), (Operand.tmp 50)], argTypes := #[22, 22, 22] }), some (47, true)⟩,
    ⟨some 52, (Op.buildSlice 22 1 #[(0, (Operand.const (Value.int IntKind.i64 3)))]), some (47, true)⟩,
    ⟨some 53, (Op.call { callee := (Callee.value (Operand.func 62)), args := #[(Operand.tmp 51), (Operand.tmp 52)], argTypes := #[22, 22] }), some (47, true)⟩,
    ⟨some 54, (Op.pick (Operand.tmp 47) (Operand.tmp 53) (Operand.const (Value.bool false))), none⟩,
    ⟨some 0, (Op.assign (Operand.tmp 54)), none⟩])
  .ret))))
noncomputable def b24 : Code := Try.f24.body.getD .skip
theorem hb24 : Try.f24.body = some b24 := by kernel_rfl
theorem sh24 : shortC A24 b24 = c24 := by kernel_rfl
theorem ok24 : (okSlots Try.f24.ntmps b24 && okRecs A24 b24) = true := by kernel_rfl
def rs24 : List ResultVar := [(ResultVar.tmp 0)]
theorem hr24 : Try.f24.results.toList = rs24 := by kernel_rfl

/-! (*parquetry/parquetrykeep.Tape).Next (2 parameters; calls 45 parquetry/parquetrybook.Within) -/
def A16 : Ann := { drop := fun i => false }
noncomputable def c16 : Cc :=
  (.seq (.reg false [⟨some 4, (Op.assign (Operand.const (Value.int IntKind.i64 0))), none⟩])
  (.seq (.seq (.reg false [⟨some 5, (Op.move (Operand.tmp 0)), none⟩,
    ⟨some 6, (Op.nilCheck (Operand.tmp 5)), none⟩,
    ⟨some 7, (Op.fieldAddr 25 (Operand.tmp 6) 1), none⟩,
    ⟨some 8, (Op.load 3 (Operand.tmp 7)), none⟩,
    ⟨some 9, (Op.move (Operand.tmp 0)), none⟩,
    ⟨some 10, (Op.nilCheck (Operand.tmp 9)), none⟩,
    ⟨some 11, (Op.fieldAddr 25 (Operand.tmp 10) 0), none⟩,
    ⟨some 12, (Op.load 22 (Operand.tmp 11)), none⟩,
    ⟨some 13, (Op.call { callee := (Callee.builtin Builtin.len), args := #[(Operand.tmp 12)], argTypes := #[22] }), none⟩,
    ⟨some 14, (Op.binOp BinOp.geq 3 (Operand.tmp 8) (Operand.tmp 13) 3), none⟩,
    ⟨some 15, (Op.move (Operand.tmp 14)), none⟩,
    ⟨some 16, (Op.move (Operand.tmp 1)), some (15, false)⟩,
    ⟨some 17, (Op.binOp BinOp.lss 3 (Operand.tmp 16) (Operand.const (Value.int IntKind.i64 1)) 3), some (15, false)⟩,
    ⟨some 18, (Op.pick (Operand.tmp 15) (Operand.const (Value.bool true)) (Operand.tmp 17)), none⟩])
  (.cond (Operand.tmp 18)
    (.seq (.reg false [⟨some 4, (Op.assign (Operand.const (Value.int IntKind.i64 0))), none⟩])
    .ret)
    .skip))
  (.seq (.reg false [⟨some 19, (Op.move (Operand.tmp 0)), none⟩,
    ⟨some 20, (Op.nilCheck (Operand.tmp 19)), none⟩,
    ⟨some 21, (Op.fieldAddr 25 (Operand.tmp 20) 1), none⟩,
    ⟨some 22, (Op.load 3 (Operand.tmp 21)), none⟩,
    ⟨some 23, (Op.binOp BinOp.add 3 (Operand.tmp 22) (Operand.const (Value.int IntKind.i64 1)) 3), none⟩,
    ⟨some 24, (Op.nilCheck (Operand.tmp 19)), none⟩,
    ⟨some 25, (Op.fieldAddr 25 (Operand.tmp 24) 1), none⟩,
    ⟨none, (Op.store 3 (Operand.tmp 25) (Operand.tmp 23)), none⟩])
  (.seq (.reg false [⟨some 26, (Op.move (Operand.tmp 0)), none⟩,
    ⟨some 27, (Op.nilCheck (Operand.tmp 26)), none⟩,
    ⟨some 28, (Op.fieldAddr 25 (Operand.tmp 27) 0), none⟩,
    ⟨some 29, (Op.load 22 (Operand.tmp 28)), none⟩,
    ⟨some 30, (Op.move (Operand.tmp 0)), none⟩,
    ⟨some 31, (Op.nilCheck (Operand.tmp 30)), none⟩,
    ⟨some 32, (Op.fieldAddr 25 (Operand.tmp 31) 1), none⟩,
    ⟨some 33, (Op.load 3 (Operand.tmp 32)), none⟩,
    ⟨some 34, (Op.binOp BinOp.sub 3 (Operand.tmp 33) (Operand.const (Value.int IntKind.i64 1)) 3), none⟩,
    ⟨some 35, (Op.indexAddr 22 (Operand.tmp 29) (Operand.tmp 34)), none⟩,
    ⟨some 36, (Op.load 3 (Operand.tmp 35)), none⟩,
    ⟨some 37, (Op.call { callee := (Callee.value (Operand.func 45)), args := #[(Operand.tmp 36), (Operand.const (Value.int IntKind.i64 0)), (Operand.const (Value.int IntKind.i64 1073741824))], argTypes := #[3, 3, 3] }), none⟩,
    ⟨some 38, (Op.move (Operand.tmp 1)), none⟩,
    ⟨some 39, (Op.binOp BinOp.rem 3 (Operand.tmp 37) (Operand.tmp 38) 3), none⟩,
    ⟨some 4, (Op.assign (Operand.tmp 39)), none⟩])
  .ret))))
noncomputable def b16 : Code := Try.f16.body.getD .skip
theorem hb16 : Try.f16.body = some b16 := by kernel_rfl
theorem sh16 : shortC A16 b16 = c16 := by kernel_rfl
theorem ok16 : (okSlots Try.f16.ntmps b16 && okRecs A16 b16) = true := by kernel_rfl
def rs16 : List ResultVar := [(ResultVar.tmp 4)]
theorem hr16 : Try.f16.results.toList = rs16 := by kernel_rfl

/-! (*parquetry/parquetrykeep.Tape).Shape (1 parameters; calls 16 (*parquetry/parquetrykeep.Tape).Next) -/
def A17 : Ann := { live := fun i => if i = 3 then [0, 3, 4] else [], drop := fun i => false }
noncomputable def c17 : Cc :=
  (.seq (.reg false [⟨some 2, (Op.assign (Operand.const (Value.slice none 0 0))), none⟩])
  (.seq (.reg false [⟨some 3, (Op.assign (Operand.const (Value.slice none 0 0))), none⟩])
  (.seq (.seq (.reg false [⟨some 5, (Op.move (Operand.tmp 0)), none⟩,
    ⟨some 6, (Op.call { callee := (Callee.value (Operand.func 16)), args := #[(Operand.tmp 5), (Operand.const (Value.int IntKind.i64 4))], argTypes := #[23, 3] }), none⟩,
    ⟨some 4, (Op.assign (Operand.tmp 6)), none⟩])
  (.block 0 (.loop [0, 3, 4] false
    (.seq (.seq (.reg false [⟨some 7, (Op.move (Operand.tmp 4)), none⟩,
      ⟨some 8, (Op.binOp BinOp.gtr 3 (Operand.tmp 7) (Operand.const (Value.int IntKind.i64 0)) 3), none⟩])
    (.cond (Operand.tmp 8)
      .skip
      (.exit 0)))
    (.seq (.block 1 (.reg false [⟨some 11, (Op.move (Operand.tmp 3)), none⟩,
      ⟨some 12, (Op.buildSlice 22 8 #[(0, (Operand.const (Value.int IntKind.i64 1))), (1, (Operand.const (Value.int IntKind.i64 2))), (2, (Operand.const (Value.int IntKind.i64 3))), (3, (Operand.const (Value.int IntKind.i64 4))), (4, (Operand.const (Value.int IntKind.i64 5))), (5, (Operand.const (Value.int IntKind.i64 0))), (6, (Operand.const (Value.int IntKind.i64 7))), (7, (Operand.const (Value.int IntKind.i64 2)))]), none⟩,
      ⟨some 13, (Op.move (Operand.tmp 0)), none⟩,
      ⟨some 14, (Op.call { callee := (Callee.value (Operand.func 16)), args := #[(Operand.tmp 13), (Operand.const (Value.int IntKind.i64 8))], argTypes := #[23, 3] }), none⟩,
      ⟨some 15, (Op.indexAddr 22 (Operand.tmp 12) (Operand.tmp 14)), none⟩,
      ⟨some 16, (Op.load 3 (Operand.tmp 15)), none⟩,
      ⟨some 17, (Op.buildSlice 22 1 #[(0, (Operand.tmp 16))]), none⟩,
      ⟨some 18, (Op.call { callee := (Callee.builtin Builtin.append), args := #[(Operand.tmp 11), (Operand.tmp 17)], argTypes := #[22, 22] }), none⟩,
      ⟨some 3, (Op.assign (Operand.tmp 18)), none⟩]))
    (.reg false [⟨some 9, (Op.move (Operand.tmp 4)), none⟩,
      ⟨some 10, (Op.binOp BinOp.sub 3 (Operand.tmp 9) (Operand.const (Value.int IntKind.i64 1)) 3), none⟩,
      ⟨some 4, (Op.assign (Operand.tmp 10)), none⟩]))))))
  (.seq (.reg false [⟨some 19, (Op.move (Operand.tmp 3)), none⟩,
    ⟨some 2, (Op.assign (Operand.tmp 19)), none⟩])
  .ret))))
noncomputable def b17 : Code := Try.f17.body.getD .skip
theorem hb17 : Try.f17.body = some b17 := by kernel_rfl
theorem sh17 : shortC A17 b17 = c17 := by kernel_rfl
theorem ok17 : (okSlots Try.f17.ntmps b17 && okRecs A17 b17) = true := by kernel_rfl
def rs17 : List ResultVar := [(ResultVar.tmp 2)]
theorem hr17 : Try.f17.results.toList = rs17 := by kernel_rfl

/-! (*parquetry/parquetrykeep.Tape).Spec (3 parameters; calls 16 (*parquetry/parquetrykeep.Tape).Next) -/
def A18 : Ann := { live := fun i => if i = 4 then [0, 1, 7, 8, 17, 18] else [], drop := fun i => false }
noncomputable def c18 : Cc :=
  (.seq (.reg false [⟨some 6, (Op.assign (Operand.const (Value.slice none 0 0))), none⟩])
  (.seq (.reg false [⟨some 11, (Op.move (Operand.tmp 2)), none⟩,
    ⟨some 12, (Op.makeSlice 22 (Operand.tmp 11) (Operand.tmp 11)), none⟩,
    ⟨some 7, (Op.assign (Operand.tmp 12)), none⟩])
  (.seq (.reg false [⟨some 13, (Op.move (Operand.tmp 1)), none⟩,
    ⟨some 14, (Op.call { callee := (Callee.builtin Builtin.len), args := #[(Operand.tmp 13)], argTypes := #[22] }), none⟩,
    ⟨some 15, (Op.makeSlice 82 (Operand.tmp 14) (Operand.tmp 14)), none⟩,
    ⟨some 8, (Op.assign (Operand.tmp 15)), none⟩])
  (.seq (.seq (.reg false [⟨some 16, (Op.move (Operand.tmp 7)), none⟩,
    ⟨some 17, (Op.call { callee := (Callee.builtin Builtin.len), args := #[(Operand.tmp 16)], argTypes := #[22] }), none⟩,
    ⟨some 18, (Op.move (Operand.const (Value.int IntKind.i64 0))), none⟩])
  (.block 0 (.loop [0, 1, 7, 8, 17, 18] false
    (.seq (.reg false [⟨some 19, (Op.binOp BinOp.lss 3 (Operand.tmp 18) (Operand.tmp 17) 3), none⟩])
    (.seq (.cond (Operand.tmp 19)
      .skip
      (.exit 0))
    (.seq (.block 1 (.seq (.reg false [⟨some 20, (Op.move (Operand.tmp 18)), none⟩,
      ⟨some 9, (Op.assign (Operand.tmp 20)), none⟩])
    (.seq (.reg false [⟨some 21, (Op.move (Operand.tmp 7)), none⟩,
      ⟨some 22, (Op.move (Operand.tmp 9)), none⟩,
      ⟨some 23, (Op.indexAddr 22 (Operand.tmp 21) (Operand.tmp 22)), none⟩,
      ⟨none, (Op.store 3 (Operand.tmp 23) (Operand.const (Value.int IntKind.i64 (-1)))), none⟩])
    (.seq (.reg false [⟨some 24, (Op.move (Operand.tmp 1)), none⟩,
      ⟨some 25, (Op.call { callee := (Callee.builtin Builtin.len), args := #[(Operand.tmp 24)], argTypes := #[22] }), none⟩,
      ⟨some 26, (Op.binOp BinOp.gtr 3 (Operand.tmp 25) (Operand.const (Value.int IntKind.i64 0)) 3), none⟩,
      ⟨some 27, (Op.move (Operand.tmp 26)), none⟩,
      ⟨some 28, (Op.move (Operand.tmp 0)), some (27, true)⟩,
      ⟨some 29, (Op.call { callee := (Callee.value (Operand.func 16)), args := #[(Operand.tmp 28), (Operand.const (Value.int IntKind.i64 2))], argTypes := #[23, 3] }), some (27, true)⟩,
      ⟨some 30, (Op.binOp BinOp.eql 3 (Operand.tmp 29) (Operand.const (Value.int IntKind.i64 0)) 3), some (27, true)⟩,
      ⟨some 31, (Op.pick (Operand.tmp 27) (Operand.tmp 30) (Operand.const (Value.bool false))), none⟩])
    (.cond (Operand.tmp 31)
      (.seq (.reg false [⟨some 32, (Op.move (Operand.tmp 0)), none⟩,
        ⟨some 33, (Op.move (Operand.tmp 1)), none⟩,
        ⟨some 34, (Op.call { callee := (Callee.builtin Builtin.len), args := #[(Operand.tmp 33)], argTypes := #[22] }), none⟩,
        ⟨some 35, (Op.call { callee := (Callee.value (Operand.func 16)), args := #[(Operand.tmp 32), (Operand.tmp 34)], argTypes := #[23, 3] }), none⟩,
        ⟨some 10, (Op.assign (Operand.tmp 35)), none⟩])
      (.seq (.reg false [⟨some 36, (Op.move (Operand.tmp 8)), none⟩,
        ⟨some 37, (Op.move (Operand.tmp 10)), none⟩,
        ⟨some 38, (Op.indexAddr 82 (Operand.tmp 36) (Operand.tmp 37)), none⟩,
        ⟨some 39, (Op.load 4 (Operand.tmp 38)), none⟩,
        ⟨some 40, (Op.unOp UnOp.not 4 (Operand.tmp 39)), none⟩])
      (.cond (Operand.tmp 40)
        (.reg false [⟨some 41, (Op.move (Operand.tmp 7)), none⟩,
          ⟨some 42, (Op.move (Operand.tmp 9)), none⟩,
          ⟨some 43, (Op.move (Operand.tmp 8)), none⟩,
          ⟨some 44, (Op.move (Operand.tmp 10)), none⟩,
          ⟨some 45, (Op.move (Operand.tmp 10)), none⟩,
          ⟨some 46, (Op.indexAddr 22 (Operand.tmp 41) (Operand.tmp 42)), none⟩,
          ⟨none, (Op.store 3 (Operand.tmp 46) (Operand.tmp 45)), none⟩,
          ⟨some 47, (Op.indexAddr 82 (Operand.tmp 43) (Operand.tmp 44)), none⟩,
          ⟨none, (Op.store 4 (Operand.tmp 47) (Operand.const (Value.bool true))), none⟩])
        .skip)))
      .skip)))))
    (.reg false [⟨some 48, (Op.binOp BinOp.add 3 (Operand.tmp 18) (Operand.const (Value.int IntKind.i64 1)) 3), none⟩,
      ⟨some 18, (Op.move (Operand.tmp 48)), none⟩])))))))
  (.seq (.reg false [⟨some 49, (Op.move (Operand.tmp 7)), none⟩,
    ⟨some 6, (Op.assign (Operand.tmp 49)), none⟩])
  .ret)))))
noncomputable def b18 : Code := Try.f18.body.getD .skip
theorem hb18 : Try.f18.body = some b18 := by kernel_rfl
theorem sh18 : shortC A18 b18 = c18 := by kernel_rfl
theorem ok18 : (okSlots Try.f18.ntmps b18 && okRecs A18 b18) = true := by kernel_rfl
def rs18 : List ResultVar := [(ResultVar.tmp 6)]
theorem hr18 : Try.f18.results.toList = rs18 := by kernel_rfl


end Go.Proofs.Ytokadkakmhfdeaa.Pq
