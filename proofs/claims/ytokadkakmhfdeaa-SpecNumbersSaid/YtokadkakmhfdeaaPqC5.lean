/- Functions in short form. -/
import Derived.Test.YtokadkakmhfdeaaPqS
import Derived.Test.YtokadkakmhfdeaaPqT
set_option linter.unusedVariables false
namespace Go.Proofs.Ytokadkakmhfdeaa.Pq
open Go.RowKit

/-! parquetry/spec.Parts (2 parameters; calls 63 parquetry/spec.Right) -/
def A64 : Ann := { live := fun i => if i = 5 then [0, 5, 17, 18, 19] else [], drop := fun i => false }
noncomputable def c64 : Cc :=
  (.seq (.reg false [⟨some 4, (Op.assign (Operand.const (Value.slice none 0 0))), none⟩])
  (.seq (.seq (.reg false [⟨some 8, (Op.move (Operand.tmp 0)), none⟩,
    ⟨some 9, (Op.move (Operand.tmp 1)), none⟩,
    ⟨some 10, (Op.move (Operand.tmp 1)), none⟩,
    ⟨some 11, (Op.call { callee := (Callee.builtin Builtin.len), args := #[(Operand.tmp 10)], argTypes := #[22] }), none⟩,
    ⟨some 12, (Op.call { callee := (Callee.value (Operand.func 63)), args := #[(Operand.tmp 8), (Operand.tmp 9), (Operand.tmp 11)], argTypes := #[22, 22, 3] }), none⟩,
    ⟨some 13, (Op.unOp UnOp.not 4 (Operand.tmp 12)), none⟩])
  (.cond (Operand.tmp 13)
    (.seq (.reg false [⟨some 4, (Op.assign (Operand.const (Value.slice none 0 0))), none⟩])
    .ret)
    .skip))
  (.seq (.reg false [⟨some 14, (Op.move (Operand.tmp 1)), none⟩,
    ⟨some 15, (Op.call { callee := (Callee.builtin Builtin.len), args := #[(Operand.tmp 14)], argTypes := #[22] }), none⟩,
    ⟨some 16, (Op.makeSlice 22 (Operand.tmp 15) (Operand.tmp 15)), none⟩,
    ⟨some 5, (Op.assign (Operand.tmp 16)), none⟩])
  (.seq (.seq (.reg false [⟨some 17, (Op.move (Operand.tmp 1)), none⟩,
    ⟨some 18, (Op.call { callee := (Callee.builtin Builtin.len), args := #[(Operand.tmp 17)], argTypes := #[22] }), none⟩,
    ⟨some 19, (Op.move (Operand.const (Value.int IntKind.i64 0))), none⟩])
  (.block 0 (.loop [0, 5, 17, 18, 19] false
    (.seq (.reg false [⟨some 20, (Op.binOp BinOp.lss 3 (Operand.tmp 19) (Operand.tmp 18) 3), none⟩])
    (.seq (.cond (Operand.tmp 20)
      .skip
      (.exit 0))
    (.seq (.block 1 (.seq (.reg false [⟨some 21, (Op.move (Operand.tmp 19)), none⟩,
      ⟨some 22, (Op.indexAddr 22 (Operand.tmp 17) (Operand.tmp 19)), none⟩,
      ⟨some 23, (Op.load 3 (Operand.tmp 22)), none⟩,
      ⟨some 6, (Op.assign (Operand.tmp 21)), none⟩,
      ⟨some 7, (Op.assign (Operand.tmp 23)), none⟩])
    (.seq (.reg false [⟨some 24, (Op.move (Operand.tmp 5)), none⟩,
      ⟨some 25, (Op.move (Operand.tmp 6)), none⟩,
      ⟨some 26, (Op.indexAddr 22 (Operand.tmp 24) (Operand.tmp 25)), none⟩,
      ⟨none, (Op.store 3 (Operand.tmp 26) (Operand.const (Value.int IntKind.i64 1))), none⟩])
    (.seq (.reg false [⟨some 27, (Op.move (Operand.tmp 7)), none⟩,
      ⟨some 28, (Op.binOp BinOp.neq 3 (Operand.tmp 27) (Operand.const (Value.int IntKind.i64 (-1))) 3), none⟩])
    (.cond (Operand.tmp 28)
      (.reg false [⟨some 29, (Op.move (Operand.tmp 5)), none⟩,
        ⟨some 30, (Op.move (Operand.tmp 6)), none⟩,
        ⟨some 31, (Op.move (Operand.tmp 0)), none⟩,
        ⟨some 32, (Op.move (Operand.tmp 7)), none⟩,
        ⟨some 33, (Op.indexAddr 22 (Operand.tmp 31) (Operand.tmp 32)), none⟩,
        ⟨some 34, (Op.load 3 (Operand.tmp 33)), none⟩,
        ⟨some 35, (Op.indexAddr 22 (Operand.tmp 29) (Operand.tmp 30)), none⟩,
        ⟨none, (Op.store 3 (Operand.tmp 35) (Operand.tmp 34)), none⟩])
      .skip)))))
    (.reg false [⟨some 36, (Op.binOp BinOp.add 3 (Operand.tmp 19) (Operand.const (Value.int IntKind.i64 1)) 3), none⟩,
      ⟨some 19, (Op.move (Operand.tmp 36)), none⟩])))))))
  (.seq (.reg false [⟨some 37, (Op.move (Operand.tmp 5)), none⟩,
    ⟨some 4, (Op.assign (Operand.tmp 37)), none⟩])
  .ret)))))
noncomputable def b64 : Code := Try.f64.body.getD .skip
theorem hb64 : Try.f64.body = some b64 := by kernel_rfl
theorem sh64 : shortC A64 b64 = c64 := by kernel_rfl
theorem ok64 : (okSlots Try.f64.ntmps b64 && okRecs A64 b64) = true := by kernel_rfl
def rs64 : List ResultVar := [(ResultVar.tmp 4)]
theorem hr64 : Try.f64.results.toList = rs64 := by kernel_rfl

/-! parquetry/spec.Copies (2 parameters; calls 63 parquetry/spec.Right, 64 parquetry/spec.Parts, 88 parquetry/mesh.Devices) -/
def A65 : Ann := { live := fun i => if i = 5 then [5, 18, 19, 20] else [], drop := fun i => false }
noncomputable def c65 : Cc :=
  (.seq (.reg false [⟨some 4, (Op.assign (Operand.const (Value.int IntKind.i64 0))), none⟩])
  (.seq (.seq (.reg false [⟨some 8, (Op.move (Operand.tmp 0)), none⟩,
    ⟨some 9, (Op.move (Operand.tmp 1)), none⟩,
    ⟨some 10, (Op.move (Operand.tmp 1)), none⟩,
    ⟨some 11, (Op.call { callee := (Callee.builtin Builtin.len), args := #[(Operand.tmp 10)], argTypes := #[22] }), none⟩,
    ⟨some 12, (Op.call { callee := (Callee.value (Operand.func 63)), args := #[(Operand.tmp 8), (Operand.tmp 9), (Operand.tmp 11)], argTypes := #[22, 22, 3] }), none⟩,
    ⟨some 13, (Op.unOp UnOp.not 4 (Operand.tmp 12)), none⟩])
  (.cond (Operand.tmp 13)
    (.seq (.reg false [⟨some 4, (Op.assign (Operand.const (Value.int IntKind.i64 0))), none⟩])
    .ret)
    .skip))
  (.seq (.reg false [⟨some 14, (Op.move (Operand.tmp 0)), none⟩,
    ⟨some 15, (Op.call { callee := (Callee.value (Operand.func 88)), args := #[(Operand.tmp 14)], argTypes := #[22] }), none⟩,
    ⟨some 5, (Op.assign (Operand.tmp 15)), none⟩])
  (.seq (.seq (.reg false [⟨some 16, (Op.move (Operand.tmp 0)), none⟩,
    ⟨some 17, (Op.move (Operand.tmp 1)), none⟩,
    ⟨some 18, (Op.call { callee := (Callee.value (Operand.func 64)), args := #[(Operand.tmp 16), (Operand.tmp 17)], argTypes := #[22, 22] }), none⟩,
    ⟨some 19, (Op.call { callee := (Callee.builtin Builtin.len), args := #[(Operand.tmp 18)], argTypes := #[22] }), none⟩,
    ⟨some 20, (Op.move (Operand.const (Value.int IntKind.i64 0))), none⟩])
  (.block 0 (.loop [5, 18, 19, 20] false
    (.seq (.reg false [⟨some 21, (Op.binOp BinOp.lss 3 (Operand.tmp 20) (Operand.tmp 19) 3), none⟩])
    (.seq (.cond (Operand.tmp 21)
      .skip
      (.exit 0))
    (.seq (.block 1 (.seq (.reg false [⟨some 22, (Op.indexAddr 22 (Operand.tmp 18) (Operand.tmp 20)), none⟩,
      ⟨some 23, (Op.load 3 (Operand.tmp 22)), none⟩,
      ⟨some 7, (Op.assign (Operand.tmp 23)), none⟩])
    (.reg false [⟨some 24, (Op.move (Operand.tmp 5)), none⟩,
      ⟨some 25, (Op.move (Operand.tmp 7)), none⟩,
      ⟨some 26, (Op.binOp BinOp.quo 3 (Operand.tmp 24) (Operand.tmp 25) 3), none⟩,
      ⟨some 5, (Op.assign (Operand.tmp 26)), none⟩])))
    (.reg false [⟨some 27, (Op.binOp BinOp.add 3 (Operand.tmp 20) (Operand.const (Value.int IntKind.i64 1)) 3), none⟩,
      ⟨some 20, (Op.move (Operand.tmp 27)), none⟩])))))))
  (.seq (.reg false [⟨some 28, (Op.move (Operand.tmp 5)), none⟩,
    ⟨some 4, (Op.assign (Operand.tmp 28)), none⟩])
  .ret)))))
noncomputable def b65 : Code := Try.f65.body.getD .skip
theorem hb65 : Try.f65.body = some b65 := by kernel_rfl
theorem sh65 : shortC A65 b65 = c65 := by kernel_rfl
theorem ok65 : (okSlots Try.f65.ntmps b65 && okRecs A65 b65) = true := by kernel_rfl
def rs65 : List ResultVar := [(ResultVar.tmp 4)]
theorem hr65 : Try.f65.results.toList = rs65 := by kernel_rfl

/-! parquetry/mesh.Of (2 parameters; calls 89 parquetry/mesh.Right) -/
def A126 : Ann := { live := fun i => if i = 5 then [0, 5, 18, 19, 20] else [], drop := fun i => false }
noncomputable def c126 : Cc :=
  (.seq (.reg false [⟨some 4, (Op.assign (Operand.const (Value.int IntKind.i64 0))), none⟩])
  (.seq (.seq (.reg false [⟨some 8, (Op.move (Operand.tmp 0)), none⟩,
    ⟨some 9, (Op.call { callee := (Callee.value (Operand.func 89)), args := #[(Operand.tmp 8)], argTypes := #[22] }), none⟩,
    ⟨some 10, (Op.unOp UnOp.not 4 (Operand.tmp 9)), none⟩,
    ⟨some 11, (Op.move (Operand.tmp 10)), none⟩,
    ⟨some 12, (Op.move (Operand.tmp 1)), some (11, false)⟩,
    ⟨some 13, (Op.call { callee := (Callee.builtin Builtin.len), args := #[(Operand.tmp 12)], argTypes := #[22] }), some (11, false)⟩,
    ⟨some 14, (Op.move (Operand.tmp 0)), some (11, false)⟩,
    ⟨some 15, (Op.call { callee := (Callee.builtin Builtin.len), args := #[(Operand.tmp 14)], argTypes := #[22] }), some (11, false)⟩,
    ⟨some 16, (Op.binOp BinOp.neq 3 (Operand.tmp 13) (Operand.tmp 15) 3), some (11, false)⟩,
    ⟨some 17, (Op.pick (Operand.tmp 11) (Operand.const (Value.bool true)) (Operand.tmp 16)), none⟩])
  (.cond (Operand.tmp 17)
    (.seq (.reg false [⟨some 4, (Op.assign (Operand.const (Value.int IntKind.i64 (-1)))), none⟩])
    .ret)
    .skip))
  (.seq (.reg false [⟨some 5, (Op.assign (Operand.const (Value.int IntKind.i64 0))), none⟩])
  (.seq (.seq (.reg false [⟨some 18, (Op.move (Operand.tmp 1)), none⟩,
    ⟨some 19, (Op.call { callee := (Callee.builtin Builtin.len), args := #[(Operand.tmp 18)], argTypes := #[22] }), none⟩,
    ⟨some 20, (Op.move (Operand.const (Value.int IntKind.i64 0))), none⟩])
  (.block 0 (.loop [0, 5, 18, 19, 20] false
    (.seq (.reg false [⟨some 21, (Op.binOp BinOp.lss 3 (Operand.tmp 20) (Operand.tmp 19) 3), none⟩])
    (.seq (.cond (Operand.tmp 21)
      .skip
      (.exit 0))
    (.seq (.block 1 (.seq (.reg false [⟨some 22, (Op.move (Operand.tmp 20)), none⟩,
      ⟨some 23, (Op.indexAddr 22 (Operand.tmp 18) (Operand.tmp 20)), none⟩,
      ⟨some 24, (Op.load 3 (Operand.tmp 23)), none⟩,
      ⟨some 6, (Op.assign (Operand.tmp 22)), none⟩,
      ⟨some 7, (Op.assign (Operand.tmp 24)), none⟩])
    (.seq (.seq (.reg false [⟨some 25, (Op.move (Operand.tmp 7)), none⟩,
      ⟨some 26, (Op.binOp BinOp.lss 3 (Operand.tmp 25) (Operand.const (Value.int IntKind.i64 0)) 3), none⟩,
      ⟨some 27, (Op.move (Operand.tmp 26)), none⟩,
      ⟨some 28, (Op.move (Operand.tmp 7)), some (27, false)⟩,
      ⟨some 29, (Op.move (Operand.tmp 0)), some (27, false)⟩,
      ⟨some 30, (Op.move (Operand.tmp 6)), some (27, false)⟩,
      ⟨some 31, (Op.indexAddr 22 (Operand.tmp 29) (Operand.tmp 30)), some (27, false)⟩,
      ⟨some 32, (Op.load 3 (Operand.tmp 31)), some (27, false)⟩,
      ⟨some 33, (Op.binOp BinOp.geq 3 (Operand.tmp 28) (Operand.tmp 32) 3), some (27, false)⟩,
      ⟨some 34, (Op.pick (Operand.tmp 27) (Operand.const (Value.bool true)) (Operand.tmp 33)), none⟩])
    (.cond (Operand.tmp 34)
      (.seq (.reg false [⟨some 4, (Op.assign (Operand.const (Value.int IntKind.i64 (-1)))), none⟩])
      .ret)
      .skip))
    (.reg false [⟨some 35, (Op.move (Operand.tmp 5)), none⟩,
      ⟨some 36, (Op.move (Operand.tmp 0)), none⟩,
      ⟨some 37, (Op.move (Operand.tmp 6)), none⟩,
      ⟨some 38, (Op.indexAddr 22 (Operand.tmp 36) (Operand.tmp 37)), none⟩,
      ⟨some 39, (Op.load 3 (Operand.tmp 38)), none⟩,
      ⟨some 40, (Op.binOp BinOp.mul 3 (Operand.tmp 35) (Operand.tmp 39) 3), none⟩,
      ⟨some 41, (Op.move (Operand.tmp 7)), none⟩,
      ⟨some 42, (Op.binOp BinOp.add 3 (Operand.tmp 40) (Operand.tmp 41) 3), none⟩,
      ⟨some 5, (Op.assign (Operand.tmp 42)), none⟩]))))
    (.reg false [⟨some 43, (Op.binOp BinOp.add 3 (Operand.tmp 20) (Operand.const (Value.int IntKind.i64 1)) 3), none⟩,
      ⟨some 20, (Op.move (Operand.tmp 43)), none⟩])))))))
  (.seq (.reg false [⟨some 44, (Op.move (Operand.tmp 5)), none⟩,
    ⟨some 4, (Op.assign (Operand.tmp 44)), none⟩])
  .ret)))))
noncomputable def b126 : Code := Try.f126.body.getD .skip
theorem hb126 : Try.f126.body = some b126 := by kernel_rfl
theorem sh126 : shortC A126 b126 = c126 := by kernel_rfl
theorem ok126 : (okSlots Try.f126.ntmps b126 && okRecs A126 b126) = true := by kernel_rfl
def rs126 : List ResultVar := [(ResultVar.tmp 4)]
theorem hr126 : Try.f126.results.toList = rs126 := by kernel_rfl

/-! parquetry/spec.First (3 parameters; calls 63 parquetry/spec.Right, 88 parquetry/mesh.Devices, 123 parquetry/mesh.At, 125 slices.Contains[[]int,int], 126 parquetry/mesh.Of) -/
def A66 : Ann := { live := fun i => if i = 5 then [0, 1, 7, 29, 30] else [], drop := fun i => false }
noncomputable def c66 : Cc :=
  (.seq (.reg false [⟨some 6, (Op.assign (Operand.const (Value.int IntKind.i64 0))), none⟩])
  (.seq (.seq (.reg false [⟨some 9, (Op.move (Operand.tmp 0)), none⟩,
    ⟨some 10, (Op.move (Operand.tmp 1)), none⟩,
    ⟨some 11, (Op.move (Operand.tmp 1)), none⟩,
    ⟨some 12, (Op.call { callee := (Callee.builtin Builtin.len), args := #[(Operand.tmp 11)], argTypes := #[22] }), none⟩,
    ⟨some 13, (Op.call { callee := (Callee.value (Operand.func 63)), args := #[(Operand.tmp 9), (Operand.tmp 10), (Operand.tmp 12)], argTypes := #[22, 22, 3] }), none⟩,
    ⟨some 14, (Op.unOp UnOp.not 4 (Operand.tmp 13)), none⟩,
    ⟨some 15, (Op.move (Operand.tmp 14)), none⟩,
    ⟨some 16, (Op.move (Operand.tmp 2)), some (15, false)⟩,
    ⟨some 17, (Op.binOp BinOp.lss 3 (Operand.tmp 16) (Operand.const (Value.int IntKind.i64 0)) 3), some (15, false)⟩,
    ⟨some 18, (Op.pick (Operand.tmp 15) (Operand.const (Value.bool true)) (Operand.tmp 17)), none⟩,
    ⟨some 19, (Op.move (Operand.tmp 18)), none⟩,
    ⟨some 20, (Op.move (Operand.tmp 2)), some (19, false)⟩,
    ⟨some 21, (Op.move (Operand.tmp 0)), some (19, false)⟩,
    ⟨some 22, (Op.call { callee := (Callee.value (Operand.func 88)), args := #[(Operand.tmp 21)], argTypes := #[22] }), some (19, false)⟩,
    ⟨some 23, (Op.binOp BinOp.geq 3 (Operand.tmp 20) (Operand.tmp 22) 3), some (19, false)⟩,
    ⟨some 24, (Op.pick (Operand.tmp 19) (Operand.const (Value.bool true)) (Operand.tmp 23)), none⟩])
  (.cond (Operand.tmp 24)
    (.seq (.reg false [⟨some 6, (Op.assign (Operand.const (Value.int IntKind.i64 (-1)))), none⟩])
    .ret)
    .skip))
  (.seq (.reg false [⟨some 25, (Op.move (Operand.tmp 0)), none⟩,
    ⟨some 26, (Op.move (Operand.tmp 2)), none⟩,
    ⟨some 27, (Op.call { callee := (Callee.value (Operand.func 123)), args := #[(Operand.tmp 25), (Operand.tmp 26)], argTypes := #[22, 3] }), none⟩,
    ⟨some 7, (Op.assign (Operand.tmp 27)), none⟩])
  (.seq (.seq (.reg false [⟨some 28, (Op.move (Operand.tmp 7)), none⟩,
    ⟨some 29, (Op.call { callee := (Callee.builtin Builtin.len), args := #[(Operand.tmp 28)], argTypes := #[22] }), none⟩,
    ⟨some 30, (Op.move (Operand.const (Value.int IntKind.i64 0))), none⟩])
  (.block 0 (.loop [0, 1, 7, 29, 30] false
    (.seq (.reg false [⟨some 31, (Op.binOp BinOp.lss 3 (Operand.tmp 30) (Operand.tmp 29) 3), none⟩])
    (.seq (.cond (Operand.tmp 31)
      .skip
      (.exit 0))
    (.seq (.block 1 (.seq (.reg false [⟨some 32, (Op.move (Operand.tmp 30)), none⟩,
      ⟨some 8, (Op.assign (Operand.tmp 32)), none⟩])
    (.seq (.reg false [⟨some 33, (Op.move (Operand.tmp 1)), none⟩,
      ⟨some 34, (Op.move (Operand.tmp 8)), none⟩,
      ⟨some 35, (Op.call { callee := (Callee.value (Operand.func 125)), args := #[(Operand.tmp 33), (Operand.tmp 34)], argTypes := #[22, 3] }), none⟩,
      ⟨some 36, (Op.unOp UnOp.not 4 (Operand.tmp 35)), none⟩])
    (.cond (Operand.tmp 36)
      (.reg false [⟨some 37, (Op.move (Operand.tmp 7)), none⟩,
        ⟨some 38, (Op.move (Operand.tmp 8)), none⟩,
        ⟨some 39, (Op.indexAddr 22 (Operand.tmp 37) (Operand.tmp 38)), none⟩,
        ⟨none, (Op.store 3 (Operand.tmp 39) (Operand.const (Value.int IntKind.i64 0))), none⟩])
      .skip))))
    (.reg false [⟨some 40, (Op.binOp BinOp.add 3 (Operand.tmp 30) (Operand.const (Value.int IntKind.i64 1)) 3), none⟩,
      ⟨some 30, (Op.move (Operand.tmp 40)), none⟩])))))))
  (.seq (.reg false [⟨some 41, (Op.move (Operand.tmp 0)), none⟩,
    ⟨some 42, (Op.move (Operand.tmp 7)), none⟩,
    ⟨some 43, (Op.call { callee := (Callee.value (Operand.func 126)), args := #[(Operand.tmp 41), (Operand.tmp 42)], argTypes := #[22, 22] }), none⟩,
    ⟨some 6, (Op.assign (Operand.tmp 43)), none⟩])
  .ret)))))
noncomputable def b66 : Code := Try.f66.body.getD .skip
theorem hb66 : Try.f66.body = some b66 := by kernel_rfl
theorem sh66 : shortC A66 b66 = c66 := by kernel_rfl
theorem ok66 : (okSlots Try.f66.ntmps b66 && okRecs A66 b66) = true := by kernel_rfl
def rs66 : List ResultVar := [(ResultVar.tmp 6)]
theorem hr66 : Try.f66.results.toList = rs66 := by kernel_rfl

/-! parquetry/parquetryref14.At (2 parameters; calls 20 parquetry/parquetryref14.Devices) -/
def A98 : Ann := { live := fun i => if i = 5 then [0, 1, 5, 6] else [], drop := fun i => false }
noncomputable def c98 : Cc :=
  (.seq (.reg false [⟨some 4, (Op.assign (Operand.const (Value.slice none 0 0))), none⟩])
  (.seq (.seq (.reg false [⟨some 7, (Op.move (Operand.tmp 1)), none⟩,
    ⟨some 8, (Op.binOp BinOp.lss 3 (Operand.tmp 7) (Operand.const (Value.int IntKind.i64 0)) 3), none⟩,
    ⟨some 9, (Op.move (Operand.tmp 8)), none⟩,
    ⟨some 10, (Op.move (Operand.tmp 1)), some (9, false)⟩,
    ⟨some 11, (Op.move (Operand.tmp 0)), some (9, false)⟩,
    ⟨some 12, (Op.call { callee := (Callee.value (Operand.func 20)), args := #[(Operand.tmp 11)], argTypes := #[22] }), some (9, false)⟩,
    ⟨some 13, (Op.binOp BinOp.geq 3 (Operand.tmp 10) (Operand.tmp 12) 3), some (9, false)⟩,
    ⟨some 14, (Op.pick (Operand.tmp 9) (Operand.const (Value.bool true)) (Operand.tmp 13)), none⟩])
  (.cond (Operand.tmp 14)
    (.seq (.reg false [⟨some 4, (Op.assign (Operand.const (Value.slice none 0 0))), none⟩])
    .ret)
    .skip))
  (.seq (.reg false [⟨some 15, (Op.move (Operand.tmp 0)), none⟩,
    ⟨some 16, (Op.call { callee := (Callee.builtin Builtin.len), args := #[(Operand.tmp 15)], argTypes := #[22] }), none⟩,
    ⟨some 17, (Op.makeSlice 22 (Operand.tmp 16) (Operand.tmp 16)), none⟩,
    ⟨some 5, (Op.assign (Operand.tmp 17)), none⟩])
  (.seq (.seq (.reg false [⟨some 18, (Op.move (Operand.tmp 0)), none⟩,
    ⟨some 19, (Op.call { callee := (Callee.builtin Builtin.len), args := #[(Operand.tmp 18)], argTypes := #[22] }), none⟩,
    ⟨some 20, (Op.binOp BinOp.sub 3 (Operand.tmp 19) (Operand.const (Value.int IntKind.i64 1)) 3), none⟩,
    ⟨some 6, (Op.assign (Operand.tmp 20)), none⟩])
  (.block 0 (.loop [0, 1, 5, 6] false
    (.seq (.seq (.reg false [⟨some 21, (Op.move (Operand.tmp 6)), none⟩,
      ⟨some 22, (Op.binOp BinOp.geq 3 (Operand.tmp 21) (Operand.const (Value.int IntKind.i64 0)) 3), none⟩])
    (.cond (Operand.tmp 22)
      .skip
      (.exit 0)))
    (.seq (.block 1 (.seq (.reg false [⟨some 25, (Op.move (Operand.tmp 5)), none⟩,
      ⟨some 26, (Op.move (Operand.tmp 6)), none⟩,
      ⟨some 27, (Op.move (Operand.tmp 1)), none⟩,
      ⟨some 28, (Op.move (Operand.tmp 0)), none⟩,
      ⟨some 29, (Op.move (Operand.tmp 6)), none⟩,
      ⟨some 30, (Op.indexAddr 22 (Operand.tmp 28) (Operand.tmp 29)), none⟩,
      ⟨some 31, (Op.load 3 (Operand.tmp 30)), none⟩,
      ⟨some 32, (Op.binOp BinOp.rem 3 (Operand.tmp 27) (Operand.tmp 31) 3), none⟩,
      ⟨some 33, (Op.indexAddr 22 (Operand.tmp 25) (Operand.tmp 26)), none⟩,
      ⟨none, (Op.store 3 (Operand.tmp 33) (Operand.tmp 32)), none⟩])
    (.reg false [⟨some 34, (Op.move (Operand.tmp 1)), none⟩,
      ⟨some 35, (Op.move (Operand.tmp 0)), none⟩,
      ⟨some 36, (Op.move (Operand.tmp 6)), none⟩,
      ⟨some 37, (Op.indexAddr 22 (Operand.tmp 35) (Operand.tmp 36)), none⟩,
      ⟨some 38, (Op.load 3 (Operand.tmp 37)), none⟩,
      ⟨some 39, (Op.binOp BinOp.quo 3 (Operand.tmp 34) (Operand.tmp 38) 3), none⟩,
      ⟨some 1, (Op.assign (Operand.tmp 39)), none⟩])))
    (.reg false [⟨some 23, (Op.move (Operand.tmp 6)), none⟩,
      ⟨some 24, (Op.binOp BinOp.sub 3 (Operand.tmp 23) (Operand.const (Value.int IntKind.i64 1)) 3), none⟩,
      ⟨some 6, (Op.assign (Operand.tmp 24)), none⟩]))))))
  (.seq (.reg false [⟨some 40, (Op.move (Operand.tmp 5)), none⟩,
    ⟨some 4, (Op.assign (Operand.tmp 40)), none⟩])
  .ret)))))
noncomputable def b98 : Code := Try.f98.body.getD .skip
theorem hb98 : Try.f98.body = some b98 := by kernel_rfl
theorem sh98 : shortC A98 b98 = c98 := by kernel_rfl
theorem ok98 : (okSlots Try.f98.ntmps b98 && okRecs A98 b98) = true := by kernel_rfl
def rs98 : List ResultVar := [(ResultVar.tmp 4)]
theorem hr98 : Try.f98.results.toList = rs98 := by kernel_rfl

/-! parquetry/parquetryref14.Of (2 parameters; calls 56 parquetry/parquetryref14.Right) -/
def A127 : Ann := { live := fun i => if i = 5 then [0, 1, 5, 18, 19] else [], drop := fun i => false }
noncomputable def c127 : Cc :=
  (.seq (.reg false [⟨some 4, (Op.assign (Operand.const (Value.int IntKind.i64 0))), none⟩])
  (.seq (.seq (.reg false [⟨some 7, (Op.move (Operand.tmp 0)), none⟩,
    ⟨some 8, (Op.call { callee := (Callee.value (Operand.func 56)), args := #[(Operand.tmp 7)], argTypes := #[22] }), none⟩,
    ⟨some 9, (Op.unOp UnOp.not 4 (Operand.tmp 8)), none⟩,
    ⟨some 10, (Op.move (Operand.tmp 9)), none⟩,
    ⟨some 11, (Op.move (Operand.tmp 1)), some (10, false)⟩,
    ⟨some 12, (Op.call { callee := (Callee.builtin Builtin.len), args := #[(Operand.tmp 11)], argTypes := #[22] }), some (10, false)⟩,
    ⟨some 13, (Op.move (Operand.tmp 0)), some (10, false)⟩,
    ⟨some 14, (Op.call { callee := (Callee.builtin Builtin.len), args := #[(Operand.tmp 13)], argTypes := #[22] }), some (10, false)⟩,
    ⟨some 15, (Op.binOp BinOp.neq 3 (Operand.tmp 12) (Operand.tmp 14) 3), some (10, false)⟩,
    ⟨some 16, (Op.pick (Operand.tmp 10) (Operand.const (Value.bool true)) (Operand.tmp 15)), none⟩])
  (.cond (Operand.tmp 16)
    (.seq (.reg false [⟨some 4, (Op.assign (Operand.const (Value.int IntKind.i64 (-1)))), none⟩])
    .ret)
    .skip))
  (.seq (.reg false [⟨some 5, (Op.assign (Operand.const (Value.int IntKind.i64 0))), none⟩])
  (.seq (.seq (.reg false [⟨some 17, (Op.move (Operand.tmp 0)), none⟩,
    ⟨some 18, (Op.call { callee := (Callee.builtin Builtin.len), args := #[(Operand.tmp 17)], argTypes := #[22] }), none⟩,
    ⟨some 19, (Op.move (Operand.const (Value.int IntKind.i64 0))), none⟩])
  (.block 0 (.loop [0, 1, 5, 18, 19] false
    (.seq (.reg false [⟨some 20, (Op.binOp BinOp.lss 3 (Operand.tmp 19) (Operand.tmp 18) 3), none⟩])
    (.seq (.cond (Operand.tmp 20)
      .skip
      (.exit 0))
    (.seq (.block 1 (.seq (.reg false [⟨some 21, (Op.move (Operand.tmp 19)), none⟩,
      ⟨some 6, (Op.assign (Operand.tmp 21)), none⟩])
    (.seq (.seq (.reg false [⟨some 22, (Op.move (Operand.tmp 1)), none⟩,
      ⟨some 23, (Op.move (Operand.tmp 6)), none⟩,
      ⟨some 24, (Op.indexAddr 22 (Operand.tmp 22) (Operand.tmp 23)), none⟩,
      ⟨some 25, (Op.load 3 (Operand.tmp 24)), none⟩,
      ⟨some 26, (Op.binOp BinOp.lss 3 (Operand.tmp 25) (Operand.const (Value.int IntKind.i64 0)) 3), none⟩,
      ⟨some 27, (Op.move (Operand.tmp 26)), none⟩,
      ⟨some 28, (Op.move (Operand.tmp 1)), some (27, false)⟩,
      ⟨some 29, (Op.move (Operand.tmp 6)), some (27, false)⟩,
      ⟨some 30, (Op.indexAddr 22 (Operand.tmp 28) (Operand.tmp 29)), some (27, false)⟩,
      ⟨some 31, (Op.load 3 (Operand.tmp 30)), some (27, false)⟩,
      ⟨some 32, (Op.move (Operand.tmp 0)), some (27, false)⟩,
      ⟨some 33, (Op.move (Operand.tmp 6)), some (27, false)⟩,
      ⟨some 34, (Op.indexAddr 22 (Operand.tmp 32) (Operand.tmp 33)), some (27, false)⟩,
      ⟨some 35, (Op.load 3 (Operand.tmp 34)), some (27, false)⟩,
      ⟨some 36, (Op.binOp BinOp.geq 3 (Operand.tmp 31) (Operand.tmp 35) 3), some (27, false)⟩,
      ⟨some 37, (Op.pick (Operand.tmp 27) (Operand.const (Value.bool true)) (Operand.tmp 36)), none⟩])
    (.cond (Operand.tmp 37)
      (.seq (.reg false [⟨some 4, (Op.assign (Operand.const (Value.int IntKind.i64 (-1)))), none⟩])
      .ret)
      .skip))
    (.reg false [⟨some 38, (Op.move (Operand.tmp 5)), none⟩,
      ⟨some 39, (Op.move (Operand.tmp 0)), none⟩,
      ⟨some 40, (Op.move (Operand.tmp 6)), none⟩,
      ⟨some 41, (Op.indexAddr 22 (Operand.tmp 39) (Operand.tmp 40)), none⟩,
      ⟨some 42, (Op.load 3 (Operand.tmp 41)), none⟩,
      ⟨some 43, (Op.binOp BinOp.mul 3 (Operand.tmp 38) (Operand.tmp 42) 3), none⟩,
      ⟨some 44, (Op.move (Operand.tmp 1)), none⟩,
      ⟨some 45, (Op.move (Operand.tmp 6)), none⟩,
      ⟨some 46, (Op.indexAddr 22 (Operand.tmp 44) (Operand.tmp 45)), none⟩,
      ⟨some 47, (Op.load 3 (Operand.tmp 46)), none⟩,
      ⟨some 48, (Op.binOp BinOp.add 3 (Operand.tmp 43) (Operand.tmp 47) 3), none⟩,
      ⟨some 5, (Op.assign (Operand.tmp 48)), none⟩]))))
    (.reg false [⟨some 49, (Op.binOp BinOp.add 3 (Operand.tmp 19) (Operand.const (Value.int IntKind.i64 1)) 3), none⟩,
      ⟨some 19, (Op.move (Operand.tmp 49)), none⟩])))))))
  (.seq (.reg false [⟨some 50, (Op.move (Operand.tmp 5)), none⟩,
    ⟨some 4, (Op.assign (Operand.tmp 50)), none⟩])
  .ret)))))
noncomputable def b127 : Code := Try.f127.body.getD .skip
theorem hb127 : Try.f127.body = some b127 := by kernel_rfl
theorem sh127 : shortC A127 b127 = c127 := by kernel_rfl
theorem ok127 : (okSlots Try.f127.ntmps b127 && okRecs A127 b127) = true := by kernel_rfl
def rs127 : List ResultVar := [(ResultVar.tmp 4)]
theorem hr127 : Try.f127.results.toList = rs127 := by kernel_rfl

/-! parquetry/parquetryref14.First (3 parameters; calls 20 parquetry/parquetryref14.Devices, 58 parquetry/parquetryref14.Spec, 98 parquetry/parquetryref14.At, 127 parquetry/parquetryref14.Of) -/
def A67 : Ann := { live := fun i => if i = 5 then [0, 1, 7, 31, 32] else if i = 9 then [0, 1, 7, 8, 9, 31, 32, 36, 37] else [], drop := fun i => false }
noncomputable def c67 : Cc :=
  (.seq (.reg false [⟨some 6, (Op.assign (Operand.const (Value.int IntKind.i64 0))), none⟩])
  (.seq (.seq (.reg false [⟨some 11, (Op.move (Operand.tmp 2)), none⟩,
    ⟨some 12, (Op.binOp BinOp.lss 3 (Operand.tmp 11) (Operand.const (Value.int IntKind.i64 0)) 3), none⟩,
    ⟨some 13, (Op.move (Operand.tmp 12)), none⟩,
    ⟨some 14, (Op.move (Operand.tmp 2)), some (13, false)⟩,
    ⟨some 15, (Op.move (Operand.tmp 0)), some (13, false)⟩,
    ⟨some 16, (Op.call { callee := (Callee.value (Operand.func 20)), args := #[(Operand.tmp 15)], argTypes := #[22] }), some (13, false)⟩,
    ⟨some 17, (Op.binOp BinOp.geq 3 (Operand.tmp 14) (Operand.tmp 16) 3), some (13, false)⟩,
    ⟨some 18, (Op.pick (Operand.tmp 13) (Operand.const (Value.bool true)) (Operand.tmp 17)), none⟩,
    ⟨some 19, (Op.move (Operand.tmp 18)), none⟩,
    ⟨some 20, (Op.move (Operand.tmp 0)), some (19, false)⟩,
    ⟨some 21, (Op.move (Operand.tmp 1)), some (19, false)⟩,
    ⟨some 22, (Op.move (Operand.tmp 1)), some (19, false)⟩,
    ⟨some 23, (Op.call { callee := (Callee.builtin Builtin.len), args := #[(Operand.tmp 22)], argTypes := #[22] }), some (19, false)⟩,
    ⟨some 24, (Op.call { callee := (Callee.value (Operand.func 58)), args := #[(Operand.tmp 20), (Operand.tmp 21), (Operand.tmp 23)], argTypes := #[22, 22, 3] }), some (19, false)⟩,
    ⟨some 25, (Op.unOp UnOp.not 4 (Operand.tmp 24)), some (19, false)⟩,
    ⟨some 26, (Op.pick (Operand.tmp 19) (Operand.const (Value.bool true)) (Operand.tmp 25)), none⟩])
  (.cond (Operand.tmp 26)
    (.seq (.reg false [⟨some 6, (Op.assign (Operand.const (Value.int IntKind.i64 (-1)))), none⟩])
    .ret)
    .skip))
  (.seq (.reg false [⟨some 27, (Op.move (Operand.tmp 0)), none⟩,
    ⟨some 28, (Op.move (Operand.tmp 2)), none⟩,
    ⟨some 29, (Op.call { callee := (Callee.value (Operand.func 98)), args := #[(Operand.tmp 27), (Operand.tmp 28)], argTypes := #[22, 3] }), none⟩,
    ⟨some 7, (Op.assign (Operand.tmp 29)), none⟩])
  (.seq (.seq (.reg false [⟨some 30, (Op.move (Operand.tmp 7)), none⟩,
    ⟨some 31, (Op.call { callee := (Callee.builtin Builtin.len), args := #[(Operand.tmp 30)], argTypes := #[22] }), none⟩,
    ⟨some 32, (Op.move (Operand.const (Value.int IntKind.i64 0))), none⟩])
  (.block 0 (.loop [0, 1, 7, 31, 32] false
    (.seq (.reg false [⟨some 33, (Op.binOp BinOp.lss 3 (Operand.tmp 32) (Operand.tmp 31) 3), none⟩])
    (.seq (.cond (Operand.tmp 33)
      .skip
      (.exit 0))
    (.seq (.block 1 (.seq (.reg false [⟨some 34, (Op.move (Operand.tmp 32)), none⟩,
      ⟨some 8, (Op.assign (Operand.tmp 34)), none⟩])
    (.seq (.reg false [⟨some 9, (Op.assign (Operand.const (Value.bool false))), none⟩])
    (.seq (.seq (.reg false [⟨some 35, (Op.move (Operand.tmp 1)), none⟩,
      ⟨some 36, (Op.call { callee := (Callee.builtin Builtin.len), args := #[(Operand.tmp 35)], argTypes := #[22] }), none⟩,
      ⟨some 37, (Op.move (Operand.const (Value.int IntKind.i64 0))), none⟩])
    (.block 2 (.loop [0, 1, 7, 8, 9, 31, 32, 36, 37] false
      (.seq (.reg false [⟨some 38, (Op.binOp BinOp.lss 3 (Operand.tmp 37) (Operand.tmp 36) 3), none⟩])
      (.seq (.cond (Operand.tmp 38)
        .skip
        (.exit 2))
      (.seq (.block 3 (.seq (.reg false [⟨some 39, (Op.move (Operand.tmp 37)), none⟩,
        ⟨some 10, (Op.assign (Operand.tmp 39)), none⟩])
      (.reg false [⟨some 40, (Op.move (Operand.tmp 9)), none⟩,
        ⟨some 41, (Op.move (Operand.tmp 40)), none⟩,
        ⟨some 42, (Op.move (Operand.tmp 1)), some (41, false)⟩,
        ⟨some 43, (Op.move (Operand.tmp 10)), some (41, false)⟩,
        ⟨some 44, (Op.indexAddr 22 (Operand.tmp 42) (Operand.tmp 43)), some (41, false)⟩,
        ⟨some 45, (Op.load 3 (Operand.tmp 44)), some (41, false)⟩,
        ⟨some 46, (Op.move (Operand.tmp 8)), some (41, false)⟩,
        ⟨some 47, (Op.binOp BinOp.eql 3 (Operand.tmp 45) (Operand.tmp 46) 3), some (41, false)⟩,
        ⟨some 48, (Op.pick (Operand.tmp 41) (Operand.const (Value.bool true)) (Operand.tmp 47)), none⟩,
        ⟨some 9, (Op.assign (Operand.tmp 48)), none⟩])))
      (.reg false [⟨some 49, (Op.binOp BinOp.add 3 (Operand.tmp 37) (Operand.const (Value.int IntKind.i64 1)) 3), none⟩,
        ⟨some 37, (Op.move (Operand.tmp 49)), none⟩])))))))
    (.seq (.reg false [⟨some 50, (Op.move (Operand.tmp 9)), none⟩,
      ⟨some 51, (Op.unOp UnOp.not 4 (Operand.tmp 50)), none⟩])
    (.cond (Operand.tmp 51)
      (.reg false [⟨some 52, (Op.move (Operand.tmp 7)), none⟩,
        ⟨some 53, (Op.move (Operand.tmp 8)), none⟩,
        ⟨some 54, (Op.indexAddr 22 (Operand.tmp 52) (Operand.tmp 53)), none⟩,
        ⟨none, (Op.store 3 (Operand.tmp 54) (Operand.const (Value.int IntKind.i64 0))), none⟩])
      .skip))))))
    (.reg false [⟨some 55, (Op.binOp BinOp.add 3 (Operand.tmp 32) (Operand.const (Value.int IntKind.i64 1)) 3), none⟩,
      ⟨some 32, (Op.move (Operand.tmp 55)), none⟩])))))))
  (.seq (.reg false [⟨some 56, (Op.move (Operand.tmp 0)), none⟩,
    ⟨some 57, (Op.move (Operand.tmp 7)), none⟩,
    ⟨some 58, (Op.call { callee := (Callee.value (Operand.func 127)), args := #[(Operand.tmp 56), (Operand.tmp 57)], argTypes := #[22, 22] }), none⟩,
    ⟨some 6, (Op.assign (Operand.tmp 58)), none⟩])
  .ret)))))
noncomputable def b67 : Code := Try.f67.body.getD .skip
theorem hb67 : Try.f67.body = some b67 := by kernel_rfl
theorem sh67 : shortC A67 b67 = c67 := by kernel_rfl
theorem ok67 : (okSlots Try.f67.ntmps b67 && okRecs A67 b67) = true := by kernel_rfl
def rs67 : List ResultVar := [(ResultVar.tmp 6)]
theorem hr67 : Try.f67.results.toList = rs67 := by kernel_rfl

/-! slices.Equal[[]int,int] (2 parameters; calls none) -/
def A129 : Ann := { live := fun i => if i = 4 then [0, 1, 12, 13] else [], drop := fun i => false }
noncomputable def c129 : Cc :=
  (.seq (.reg false [⟨some 4, (Op.assign (Operand.const (Value.bool false))), none⟩])
  (.seq (.seq (.reg false [⟨some 6, (Op.move (Operand.tmp 0)), none⟩,
    ⟨some 7, (Op.call { callee := (Callee.builtin Builtin.len), args := #[(Operand.tmp 6)], argTypes := #[22] }), none⟩,
    ⟨some 8, (Op.move (Operand.tmp 1)), none⟩,
    ⟨some 9, (Op.call { callee := (Callee.builtin Builtin.len), args := #[(Operand.tmp 8)], argTypes := #[22] }), none⟩,
    ⟨some 10, (Op.binOp BinOp.neq 3 (Operand.tmp 7) (Operand.tmp 9) 3), none⟩])
  (.cond (Operand.tmp 10)
    (.seq (.reg false [⟨some 4, (Op.assign (Operand.const (Value.bool false))), none⟩])
    .ret)
    .skip))
  (.seq (.seq (.reg false [⟨some 11, (Op.move (Operand.tmp 0)), none⟩,
    ⟨some 12, (Op.call { callee := (Callee.builtin Builtin.len), args := #[(Operand.tmp 11)], argTypes := #[22] }), none⟩,
    ⟨some 13, (Op.move (Operand.const (Value.int IntKind.i64 0))), none⟩])
  (.block 0 (.loop [0, 1, 12, 13] false
    (.seq (.reg false [⟨some 14, (Op.binOp BinOp.lss 3 (Operand.tmp 13) (Operand.tmp 12) 3), none⟩])
    (.seq (.cond (Operand.tmp 14)
      .skip
      (.exit 0))
    (.seq (.block 1 (.seq (.reg false [⟨some 15, (Op.move (Operand.tmp 13)), none⟩,
      ⟨some 5, (Op.assign (Operand.tmp 15)), none⟩])
    (.seq (.reg false [⟨some 16, (Op.move (Operand.tmp 0)), none⟩,
      ⟨some 17, (Op.move (Operand.tmp 5)), none⟩,
      ⟨some 18, (Op.indexAddr 22 (Operand.tmp 16) (Operand.tmp 17)), none⟩,
      ⟨some 19, (Op.load 3 (Operand.tmp 18)), none⟩,
      ⟨some 20, (Op.move (Operand.tmp 1)), none⟩,
      ⟨some 21, (Op.move (Operand.tmp 5)), none⟩,
      ⟨some 22, (Op.indexAddr 22 (Operand.tmp 20) (Operand.tmp 21)), none⟩,
      ⟨some 23, (Op.load 3 (Operand.tmp 22)), none⟩,
      ⟨some 24, (Op.binOp BinOp.neq 3 (Operand.tmp 19) (Operand.tmp 23) 3), none⟩])
    (.cond (Operand.tmp 24)
      (.seq (.reg false [⟨some 4, (Op.assign (Operand.const (Value.bool false))), none⟩])
      .ret)
      .skip))))
    (.reg false [⟨some 25, (Op.binOp BinOp.add 3 (Operand.tmp 13) (Operand.const (Value.int IntKind.i64 1)) 3), none⟩,
      ⟨some 13, (Op.move (Operand.tmp 25)), none⟩])))))))
  (.seq (.reg false [⟨some 4, (Op.assign (Operand.const (Value.bool true))), none⟩])
  .ret))))
noncomputable def b129 : Code := Try.f129.body.getD .skip
theorem hb129 : Try.f129.body = some b129 := by kernel_rfl
theorem sh129 : shortC A129 b129 = c129 := by kernel_rfl
theorem ok129 : (okSlots Try.f129.ntmps b129 && okRecs A129 b129) = true := by kernel_rfl
def rs129 : List ResultVar := [(ResultVar.tmp 4)]
theorem hr129 : Try.f129.results.toList = rs129 := by kernel_rfl

/-! parquetry/spec.Same (2 parameters; calls 129 slices.Equal[[]int,int]) -/
def A69 : Ann := { drop := fun i => false }
noncomputable def c69 : Cc :=
  (.seq (.reg false [⟨some 4, (Op.assign (Operand.const (Value.bool false))), none⟩])
  (.seq (.reg false [⟨some 5, (Op.move (Operand.tmp 0)), none⟩,
    ⟨some 6, (Op.move (Operand.tmp 1)), none⟩,
    ⟨some 7, (Op.call { callee := (Callee.value (Operand.func 129)), args := #[(Operand.tmp 5), (Operand.tmp 6)], argTypes := #[22, 22] }), none⟩,
    ⟨some 4, (Op.assign (Operand.tmp 7)), none⟩])
  .ret))
noncomputable def b69 : Code := Try.f69.body.getD .skip
theorem hb69 : Try.f69.body = some b69 := by kernel_rfl
theorem sh69 : shortC A69 b69 = c69 := by kernel_rfl
theorem ok69 : (okSlots Try.f69.ntmps b69 && okRecs A69 b69) = true := by kernel_rfl
def rs69 : List ResultVar := [(ResultVar.tmp 4)]
theorem hr69 : Try.f69.results.toList = rs69 := by kernel_rfl

/-! math/bits.Mul (2 parameters; calls 172 math/bits.Mul32, 173 math/bits.Mul64) -/
def A158 : Ann := { drop := fun i => false }
noncomputable def c158 : Cc :=
  (.seq (.reg false [⟨some 4, (Op.assign (Operand.const (Value.int IntKind.u64 0))), none⟩,
    ⟨some 5, (Op.assign (Operand.const (Value.int IntKind.u64 0))), none⟩])
  (.seq (.cond (Operand.const (Value.bool false))
    (.seq (.reg false [⟨some 11, (Op.move (Operand.tmp 0)), none⟩,
      ⟨some 12, (Op.convert 159 173 (Operand.tmp 11)), none⟩,
      ⟨some 13, (Op.move (Operand.tmp 1)), none⟩,
      ⟨some 14, (Op.convert 159 173 (Operand.tmp 13)), none⟩,
      ⟨some 15, (Op.call { callee := (Callee.value (Operand.func 172)), args := #[(Operand.tmp 12), (Operand.tmp 14)], argTypes := #[173, 173] }), none⟩,
      ⟨some 10, (Op.move (Operand.tmp 15)), none⟩,
      ⟨some 16, (Op.extract (Operand.tmp 10) 0), none⟩,
      ⟨some 17, (Op.extract (Operand.tmp 10) 1), none⟩,
      ⟨some 6, (Op.assign (Operand.tmp 16)), none⟩,
      ⟨some 7, (Op.assign (Operand.tmp 17)), none⟩])
    (.seq (.reg false [⟨some 18, (Op.move (Operand.tmp 6)), none⟩,
      ⟨some 19, (Op.convert 173 159 (Operand.tmp 18)), none⟩,
      ⟨some 20, (Op.move (Operand.tmp 7)), none⟩,
      ⟨some 21, (Op.convert 173 159 (Operand.tmp 20)), none⟩,
      ⟨some 4, (Op.assign (Operand.tmp 19)), none⟩,
      ⟨some 5, (Op.assign (Operand.tmp 21)), none⟩])
    .ret))
    .skip)
  (.seq (.reg false [⟨some 23, (Op.move (Operand.tmp 0)), none⟩,
    ⟨some 24, (Op.move (Operand.tmp 1)), none⟩,
    ⟨some 25, (Op.call { callee := (Callee.value (Operand.func 173)), args := #[(Operand.tmp 23), (Operand.tmp 24)], argTypes := #[176, 176] }), none⟩,
    ⟨some 22, (Op.move (Operand.tmp 25)), none⟩,
    ⟨some 26, (Op.extract (Operand.tmp 22) 0), none⟩,
    ⟨some 27, (Op.extract (Operand.tmp 22) 1), none⟩,
    ⟨some 8, (Op.assign (Operand.tmp 26)), none⟩,
    ⟨some 9, (Op.assign (Operand.tmp 27)), none⟩])
  (.seq (.reg false [⟨some 28, (Op.move (Operand.tmp 8)), none⟩,
    ⟨some 29, (Op.move (Operand.tmp 9)), none⟩,
    ⟨some 4, (Op.assign (Operand.tmp 28)), none⟩,
    ⟨some 5, (Op.assign (Operand.tmp 29)), none⟩])
  .ret))))
noncomputable def b158 : Code := Try.f158.body.getD .skip
theorem hb158 : Try.f158.body = some b158 := by kernel_rfl
theorem sh158 : shortC A158 b158 = c158 := by kernel_rfl
theorem ok158 : (okSlots Try.f158.ntmps b158 && okRecs A158 b158) = true := by kernel_rfl
def rs158 : List ResultVar := [(ResultVar.tmp 4), (ResultVar.tmp 5)]
theorem hr158 : Try.f158.results.toList = rs158 := by kernel_rfl

/-! math/bits.Mul32 (2 parameters; calls none) -/
def A172 : Ann := { drop := fun i => false }
noncomputable def c172 : Cc :=
  (.seq (.reg false [⟨some 4, (Op.assign (Operand.const (Value.int IntKind.u32 0))), none⟩,
    ⟨some 5, (Op.assign (Operand.const (Value.int IntKind.u32 0))), none⟩])
  (.seq (.reg false [⟨some 7, (Op.move (Operand.tmp 0)), none⟩,
    ⟨some 8, (Op.convert 173 176 (Operand.tmp 7)), none⟩,
    ⟨some 9, (Op.move (Operand.tmp 1)), none⟩,
    ⟨some 10, (Op.convert 173 176 (Operand.tmp 9)), none⟩,
    ⟨some 11, (Op.binOp BinOp.mul 176 (Operand.tmp 8) (Operand.tmp 10) 176), none⟩,
    ⟨some 6, (Op.assign (Operand.tmp 11)), none⟩])
  (.seq (.reg false [⟨some 12, (Op.move (Operand.tmp 6)), none⟩,
    ⟨some 13, (Op.binOp BinOp.shr 176 (Operand.tmp 12) (Operand.const (Value.int IntKind.u64 32)) 159), none⟩,
    ⟨some 14, (Op.convert 176 173 (Operand.tmp 13)), none⟩,
    ⟨some 15, (Op.move (Operand.tmp 6)), none⟩,
    ⟨some 16, (Op.convert 176 173 (Operand.tmp 15)), none⟩,
    ⟨some 4, (Op.assign (Operand.tmp 14)), none⟩,
    ⟨some 5, (Op.assign (Operand.tmp 16)), none⟩])
  .ret)))
noncomputable def b172 : Code := Try.f172.body.getD .skip
theorem hb172 : Try.f172.body = some b172 := by kernel_rfl
theorem sh172 : shortC A172 b172 = c172 := by kernel_rfl
theorem ok172 : (okSlots Try.f172.ntmps b172 && okRecs A172 b172) = true := by kernel_rfl
def rs172 : List ResultVar := [(ResultVar.tmp 4), (ResultVar.tmp 5)]
theorem hr172 : Try.f172.results.toList = rs172 := by kernel_rfl

/-! math/bits.Mul64 (2 parameters; calls none) -/
def A173 : Ann := { drop := fun i => false }
noncomputable def c173 : Cc :=
  (.seq (.reg false [⟨some 4, (Op.assign (Operand.const (Value.int IntKind.u64 0))), none⟩,
    ⟨some 5, (Op.assign (Operand.const (Value.int IntKind.u64 0))), none⟩])
  (.seq (.reg false [⟨some 14, (Op.move (Operand.tmp 0)), none⟩,
    ⟨some 15, (Op.binOp BinOp.and 176 (Operand.tmp 14) (Operand.const (Value.int IntKind.u64 4294967295)) 176), none⟩,
    ⟨some 6, (Op.assign (Operand.tmp 15)), none⟩])
  (.seq (.reg false [⟨some 16, (Op.move (Operand.tmp 0)), none⟩,
    ⟨some 17, (Op.binOp BinOp.shr 176 (Operand.tmp 16) (Operand.const (Value.int IntKind.u64 32)) 159), none⟩,
    ⟨some 7, (Op.assign (Operand.tmp 17)), none⟩])
  (.seq (.reg false [⟨some 18, (Op.move (Operand.tmp 1)), none⟩,
    ⟨some 19, (Op.binOp BinOp.and 176 (Operand.tmp 18) (Operand.const (Value.int IntKind.u64 4294967295)) 176), none⟩,
    ⟨some 8, (Op.assign (Operand.tmp 19)), none⟩])
  (.seq (.reg false [⟨some 20, (Op.move (Operand.tmp 1)), none⟩,
    ⟨some 21, (Op.binOp BinOp.shr 176 (Operand.tmp 20) (Operand.const (Value.int IntKind.u64 32)) 159), none⟩,
    ⟨some 9, (Op.assign (Operand.tmp 21)), none⟩])
  (.seq (.reg false [⟨some 22, (Op.move (Operand.tmp 6)), none⟩,
    ⟨some 23, (Op.move (Operand.tmp 8)), none⟩,
    ⟨some 24, (Op.binOp BinOp.mul 176 (Operand.tmp 22) (Operand.tmp 23) 176), none⟩,
    ⟨some 10, (Op.assign (Operand.tmp 24)), none⟩])
  (.seq (.reg false [⟨some 25, (Op.move (Operand.tmp 7)), none⟩,
    ⟨some 26, (Op.move (Operand.tmp 8)), none⟩,
    ⟨some 27, (Op.binOp BinOp.mul 176 (Operand.tmp 25) (Operand.tmp 26) 176), none⟩,
    ⟨some 28, (Op.move (Operand.tmp 10)), none⟩,
    ⟨some 29, (Op.binOp BinOp.shr 176 (Operand.tmp 28) (Operand.const (Value.int IntKind.u64 32)) 159), none⟩,
    ⟨some 30, (Op.binOp BinOp.add 176 (Operand.tmp 27) (Operand.tmp 29) 176), none⟩,
    ⟨some 11, (Op.assign (Operand.tmp 30)), none⟩])
  (.seq (.reg false [⟨some 31, (Op.move (Operand.tmp 11)), none⟩,
    ⟨some 32, (Op.binOp BinOp.and 176 (Operand.tmp 31) (Operand.const (Value.int IntKind.u64 4294967295)) 176), none⟩,
    ⟨some 12, (Op.assign (Operand.tmp 32)), none⟩])
  (.seq (.reg false [⟨some 33, (Op.move (Operand.tmp 11)), none⟩,
    ⟨some 34, (Op.binOp BinOp.shr 176 (Operand.tmp 33) (Operand.const (Value.int IntKind.u64 32)) 159), none⟩,
    ⟨some 13, (Op.assign (Operand.tmp 34)), none⟩])
  (.seq (.reg false [⟨some 35, (Op.move (Operand.tmp 12)), none⟩,
    ⟨some 36, (Op.move (Operand.tmp 6)), none⟩,
    ⟨some 37, (Op.move (Operand.tmp 9)), none⟩,
    ⟨some 38, (Op.binOp BinOp.mul 176 (Operand.tmp 36) (Operand.tmp 37) 176), none⟩,
    ⟨some 39, (Op.binOp BinOp.add 176 (Operand.tmp 35) (Operand.tmp 38) 176), none⟩,
    ⟨some 12, (Op.assign (Operand.tmp 39)), none⟩])
  (.seq (.reg false [⟨some 40, (Op.move (Operand.tmp 7)), none⟩,
    ⟨some 41, (Op.move (Operand.tmp 9)), none⟩,
    ⟨some 42, (Op.binOp BinOp.mul 176 (Operand.tmp 40) (Operand.tmp 41) 176), none⟩,
    ⟨some 43, (Op.move (Operand.tmp 13)), none⟩,
    ⟨some 44, (Op.binOp BinOp.add 176 (Operand.tmp 42) (Operand.tmp 43) 176), none⟩,
    ⟨some 45, (Op.move (Operand.tmp 12)), none⟩,
    ⟨some 46, (Op.binOp BinOp.shr 176 (Operand.tmp 45) (Operand.const (Value.int IntKind.u64 32)) 159), none⟩,
    ⟨some 47, (Op.binOp BinOp.add 176 (Operand.tmp 44) (Operand.tmp 46) 176), none⟩,
    ⟨some 4, (Op.assign (Operand.tmp 47)), none⟩])
  (.seq (.reg false [⟨some 48, (Op.move (Operand.tmp 0)), none⟩,
    ⟨some 49, (Op.move (Operand.tmp 1)), none⟩,
    ⟨some 50, (Op.binOp BinOp.mul 176 (Operand.tmp 48) (Operand.tmp 49) 176), none⟩,
    ⟨some 5, (Op.assign (Operand.tmp 50)), none⟩])
  .ret))))))))))))
noncomputable def b173 : Code := Try.f173.body.getD .skip
theorem hb173 : Try.f173.body = some b173 := by kernel_rfl
theorem sh173 : shortC A173 b173 = c173 := by kernel_rfl
theorem ok173 : (okSlots Try.f173.ntmps b173 && okRecs A173 b173) = true := by kernel_rfl
def rs173 : List ResultVar := [(ResultVar.tmp 4), (ResultVar.tmp 5)]
theorem hr173 : Try.f173.results.toList = rs173 := by kernel_rfl

/-! slices.Repeat[[]int,int] (2 parameters; calls 158 math/bits.Mul) -/
def A128 : Ann := { recs := fun i => if i = 9 then [(0, 8)] else [], live := fun i => if i = 8 then [7, 8] else [], drop := fun i => false }
noncomputable def c128 : Cc :=
  (.seq (.reg false [⟨some 4, (Op.assign (Operand.const (Value.slice none 0 0))), none⟩])
  (.seq (.seq (.reg false [⟨some 9, (Op.move (Operand.tmp 1)), none⟩,
    ⟨some 10, (Op.binOp BinOp.lss 3 (Operand.tmp 9) (Operand.const (Value.int IntKind.i64 0)) 3), none⟩])
  (.cond (Operand.tmp 10)
    (.reg false [⟨some 11, (Op.makeInterface 9 (Operand.const (Value.string { data := #[99, 97, 110, 110, 111, 116, 32, 98, 101, 32, 110, 101, 103, 97, 116, 105, 118, 101] }))), none⟩,
      ⟨none, (Op.panic (Operand.tmp 11)), none⟩])
    .skip))
  (.seq (.reg false [⟨some 13, (Op.move (Operand.tmp 0)), none⟩,
    ⟨some 14, (Op.call { callee := (Callee.builtin Builtin.len), args := #[(Operand.tmp 13)], argTypes := #[22] }), none⟩,
    ⟨some 15, (Op.convert 3 159 (Operand.tmp 14)), none⟩,
    ⟨some 16, (Op.move (Operand.tmp 1)), none⟩,
    ⟨some 17, (Op.convert 3 159 (Operand.tmp 16)), none⟩,
    ⟨some 18, (Op.call { callee := (Callee.value (Operand.func 158)), args := #[(Operand.tmp 15), (Operand.tmp 17)], argTypes := #[159, 159] }), none⟩,
    ⟨some 12, (Op.move (Operand.tmp 18)), none⟩,
    ⟨some 19, (Op.extract (Operand.tmp 12) 0), none⟩,
    ⟨some 20, (Op.extract (Operand.tmp 12) 1), none⟩,
    ⟨some 5, (Op.assign (Operand.tmp 19)), none⟩,
    ⟨some 6, (Op.assign (Operand.tmp 20)), none⟩])
  (.seq (.seq (.reg false [⟨some 21, (Op.move (Operand.tmp 5)), none⟩,
    ⟨some 22, (Op.binOp BinOp.gtr 159 (Operand.tmp 21) (Operand.const (Value.int IntKind.u64 0)) 159), none⟩,
    ⟨some 23, (Op.move (Operand.tmp 22)), none⟩,
    ⟨some 24, (Op.move (Operand.tmp 6)), some (23, false)⟩,
    ⟨some 25, (Op.binOp BinOp.gtr 159 (Operand.tmp 24) (Operand.const (Value.int IntKind.u64 9223372036854775807)) 159), some (23, false)⟩,
    ⟨some 26, (Op.pick (Operand.tmp 23) (Operand.const (Value.bool true)) (Operand.tmp 25)), none⟩])
  (.cond (Operand.tmp 26)
    (.reg false [⟨some 27, (Op.makeInterface 9 (Operand.const (Value.string { data := #[116, 104, 101, 32, 114, 101, 115, 117, 108, 116, 32, 111, 102, 32, 40, 108, 101, 110, 40, 120, 41, 32, 42, 32, 99, 111, 117, 110, 116, 41, 32, 111, 118, 101, 114, 102, 108, 111, 119, 115] }))), none⟩,
      ⟨none, (Op.panic (Operand.tmp 27)), none⟩])
    .skip))
  (.seq (.reg false [⟨some 28, (Op.move (Operand.tmp 6)), none⟩,
    ⟨some 29, (Op.convert 159 3 (Operand.tmp 28)), none⟩,
    ⟨some 30, (Op.makeSlice 22 (Operand.tmp 29) (Operand.tmp 29)), none⟩,
    ⟨some 7, (Op.assign (Operand.tmp 30)), none⟩])
  (.seq (.reg false [⟨some 31, (Op.move (Operand.tmp 7)), none⟩,
    ⟨some 32, (Op.move (Operand.tmp 0)), none⟩,
    ⟨some 33, (Op.call { callee := (Callee.builtin Builtin.copy), args := #[(Operand.tmp 31), (Operand.tmp 32)], argTypes := #[22, 22] }), none⟩,
    ⟨some 8, (Op.assign (Operand.tmp 33)), none⟩])
  (.seq (.block 0 (.loop [7, 8] false
    (.seq (.seq (.reg false [⟨some 34, (Op.move (Operand.tmp 8)), none⟩,
      ⟨some 35, (Op.move (Operand.tmp 7)), none⟩,
      ⟨some 36, (Op.call { callee := (Callee.builtin Builtin.len), args := #[(Operand.tmp 35)], argTypes := #[22] }), none⟩,
      ⟨some 37, (Op.binOp BinOp.lss 3 (Operand.tmp 34) (Operand.tmp 36) 3), none⟩])
    (.cond (Operand.tmp 37)
      .skip
      (.exit 0)))
    (.block 1 (.reg false [⟨some 38, (Op.move (Operand.tmp 8)), none⟩,
      ⟨some 39, (Op.move (Operand.tmp 7)), none⟩,
      ⟨some 40, (Op.move (Operand.tmp 8)), none⟩,
      ⟨some 41, (Op.slice 22 (Operand.tmp 39) (some (Operand.tmp 40)) none none), none⟩,
      ⟨some 42, (Op.move (Operand.tmp 7)), none⟩,
      ⟨some 43, (Op.move (Operand.tmp 8)), none⟩,
      ⟨some 44, (Op.slice 22 (Operand.tmp 42) none (some (Operand.tmp 43)) none), none⟩,
      ⟨some 45, (Op.call { callee := (Callee.builtin Builtin.copy), args := #[(Operand.tmp 41), (Operand.tmp 44)], argTypes := #[22, 22] }), none⟩,
      ⟨some 46, (Op.binOp BinOp.add 3 (Operand.tmp 38) (Operand.tmp 45) 3), none⟩,
      ⟨some 8, (Op.assign (Operand.tmp 46)), none⟩])))))
  (.seq (.reg false [⟨some 47, (Op.move (Operand.tmp 7)), none⟩,
    ⟨some 4, (Op.assign (Operand.tmp 47)), none⟩])
  .ret))))))))
noncomputable def b128 : Code := Try.f128.body.getD .skip
theorem hb128 : Try.f128.body = some b128 := by kernel_rfl
theorem sh128 : shortC A128 b128 = c128 := by kernel_rfl
theorem ok128 : (okSlots Try.f128.ntmps b128 && okRecs A128 b128) = true := by kernel_rfl
def rs128 : List ResultVar := [(ResultVar.tmp 4)]
theorem hr128 : Try.f128.results.toList = rs128 := by kernel_rfl

/-! parquetry/spec.Whole (1 parameters; calls 128 slices.Repeat[[]int,int]) -/
def A68 : Ann := { drop := fun i => false }
noncomputable def c68 : Cc :=
  (.seq (.reg false [⟨some 2, (Op.assign (Operand.const (Value.slice none 0 0))), none⟩])
  (.seq (.seq (.reg false [⟨some 3, (Op.move (Operand.tmp 0)), none⟩,
    ⟨some 4, (Op.binOp BinOp.lss 3 (Operand.tmp 3) (Operand.const (Value.int IntKind.i64 0)) 3), none⟩,
    ⟨some 5, (Op.move (Operand.tmp 4)), none⟩,
    ⟨some 6, (Op.move (Operand.tmp 0)), some (5, false)⟩,
    ⟨some 7, (Op.binOp BinOp.gtr 3 (Operand.tmp 6) (Operand.const (Value.int IntKind.i64 4)) 3), some (5, false)⟩,
    ⟨some 8, (Op.pick (Operand.tmp 5) (Operand.const (Value.bool true)) (Operand.tmp 7)), none⟩])
  (.cond (Operand.tmp 8)
    (.seq (.reg false [⟨some 2, (Op.assign (Operand.const (Value.slice none 0 0))), none⟩])
    .ret)
    .skip))
  (.seq (.reg false [⟨some 9, (Op.buildSlice 22 1 #[(0, (Operand.const (Value.int IntKind.i64 (-1))))]), none⟩,
    ⟨some 10, (Op.move (Operand.tmp 0)), none⟩,
    ⟨some 11, (Op.call { callee := (Callee.value (Operand.func 128)), args := #[(Operand.tmp 9), (Operand.tmp 10)], argTypes := #[22, 3] }), none⟩,
    ⟨some 2, (Op.assign (Operand.tmp 11)), none⟩])
  .ret)))
noncomputable def b68 : Code := Try.f68.body.getD .skip
theorem hb68 : Try.f68.body = some b68 := by kernel_rfl
theorem sh68 : shortC A68 b68 = c68 := by kernel_rfl
theorem ok68 : (okSlots Try.f68.ntmps b68 && okRecs A68 b68) = true := by kernel_rfl
def rs68 : List ResultVar := [(ResultVar.tmp 2)]
theorem hr68 : Try.f68.results.toList = rs68 := by kernel_rfl

/-! parquetry/parquetrylaw15.same (4 parameters; calls 23 parquetry/parquetryref14.Copies, 58 parquetry/parquetryref14.Spec, 59 parquetry/parquetryref14.Parts, 62 parquetry/parquetrybook.Same[int], 63 parquetry/spec.Right, 64 parquetry/spec.Parts, 65 parquetry/spec.Copies, 66 parquetry/spec.First, 67 parquetry/parquetryref14.First, 68 parquetry/spec.Whole, 69 parquetry/spec.Same) -/
def A25 : Ann := { live := fun i => if i = 3 then [0, 1, 2, 3, 9, 10] else [], drop := fun i => false }
noncomputable def c25 : Cc :=
  (.seq (.reg false [⟨some 8, (Op.assign (Operand.const (Value.bool false))), none⟩])
  (.seq (.reg false [⟨some 11, (Op.buildSlice 22 0 #[]), none⟩,
    ⟨some 9, (Op.assign (Operand.tmp 11)), none⟩])
  (.seq (.seq (.reg false [⟨some 10, (Op.assign (Operand.const (Value.int IntKind.i64 0))), none⟩])
  (.block 0 (.loop [0, 1, 2, 3, 9, 10] false
    (.seq (.seq (.reg false [⟨some 12, (Op.move (Operand.tmp 10)), none⟩,
      ⟨some 13, (Op.move (Operand.tmp 2)), none⟩,
      ⟨some 14, (Op.binOp BinOp.lss 3 (Operand.tmp 12) (Operand.tmp 13) 3), none⟩,
      ⟨some 15, (Op.move (Operand.tmp 14)), none⟩,
      ⟨some 16, (Op.move (Operand.tmp 2)), some (15, true)⟩,
      ⟨some 17, (Op.binOp BinOp.leq 3 (Operand.tmp 16) (Operand.const (Value.int IntKind.i64 4)) 3), some (15, true)⟩,
      ⟨some 18, (Op.pick (Operand.tmp 15) (Operand.tmp 17) (Operand.const (Value.bool false))), none⟩])
    (.cond (Operand.tmp 18)
      .skip
      (.exit 0)))
    (.seq (.block 1 (.reg false [⟨some 21, (Op.move (Operand.tmp 9)), none⟩,
      ⟨some 22, (Op.buildSlice 22 1 #[(0, (Operand.const (Value.int IntKind.i64 (-1))))]), none⟩,
      ⟨some 23, (Op.call { callee := (Callee.builtin Builtin.append), args := #[(Operand.tmp 21), (Operand.tmp 22)], argTypes := #[22, 22] }), none⟩,
      ⟨some 9, (Op.assign (Operand.tmp 23)), none⟩]))
    (.reg false [⟨some 19, (Op.move (Operand.tmp 10)), none⟩,
      ⟨some 20, (Op.binOp BinOp.add 3 (Operand.tmp 19) (Operand.const (Value.int IntKind.i64 1)) 3), none⟩,
      ⟨some 10, (Op.assign (Operand.tmp 20)), none⟩]))))))
  (.seq (.reg false [⟨some 24, (Op.move (Operand.tmp 0)), none⟩,
    ⟨some 25, (Op.move (Operand.tmp 1)), none⟩,
    ⟨some 26, (Op.move (Operand.tmp 2)), none⟩,
    ⟨some 27, (Op.call { callee := (Callee.value (Operand.func 63)), args := #[(Operand.tmp 24), (Operand.tmp 25), (Operand.tmp 26)], argTypes := #[22, 22, 3] }), none⟩,
    ⟨some 28, (Op.move (Operand.tmp 0)), none⟩,
    ⟨some 29, (Op.move (Operand.tmp 1)), none⟩,
    ⟨some 30, (Op.move (Operand.tmp 2)), none⟩,
    ⟨some 31, (Op.call { callee := (Callee.value (Operand.func 58)), args := #[(Operand.tmp 28), (Operand.tmp 29), (Operand.tmp 30)], argTypes := #[22, 22, 3] }), none⟩,
    ⟨some 32, (Op.binOp BinOp.eql 4 (Operand.tmp 27) (Operand.tmp 31) 4), none⟩,
    ⟨some 33, (Op.move (Operand.tmp 32)), none⟩,
    ⟨some 34, (Op.move (Operand.tmp 0)), some (33, true)⟩,
    ⟨some 35, (Op.move (Operand.tmp 1)), some (33, true)⟩,
    ⟨some 36, (Op.call { callee := (Callee.value (Operand.func 64)), args := #[(Operand.tmp 34), (Operand.tmp 35)], argTypes := #[22, 22] }), some (33, true)⟩,
    ⟨some 37, (Op.move (Operand.tmp 0)), some (33, true)⟩,
    ⟨some 38, (Op.move (Operand.tmp 1)), some (33, true)⟩,
    ⟨some 39, (Op.call { callee := (Callee.value (Operand.func 59)), args := #[(Operand.tmp 37), (Operand.tmp 38)], argTypes := #[22, 22] }), some (33, true)⟩,
    ⟨some 40, (Op.call { callee := (Callee.value (Operand.func 62)), args := #[(Operand.tmp 36), (Operand.tmp 39)], argTypes := #[22, 22] }), some (33, true)⟩,
    ⟨some 41, (Op.pick (Operand.tmp 33) (Operand.tmp 40) (Operand.const (Value.bool false))), none⟩,
    ⟨some 42, (Op.move (Operand.tmp 41)), none⟩,
    ⟨some 43, (Op.move (Operand.tmp 0)), some (42, true)⟩,
    ⟨some 44, (Op.move (Operand.tmp 1)), some (42, true)⟩,
    ⟨some 45, (Op.call { callee := (Callee.value (Operand.func 65)), args := #[(Operand.tmp 43), (Operand.tmp 44)], argTypes := #[22, 22] }), some (42, true)⟩,
    ⟨some 46, (Op.move (Operand.tmp 0)), some (42, true)⟩,
    ⟨some 47, (Op.move (Operand.tmp 1)), some (42, true)⟩,
    ⟨some 48, (Op.call { callee := (Callee.value (Operand.func 23)), args := #[(Operand.tmp 46), (Operand.tmp 47)], argTypes := #[22, 22] }), some (42, true)⟩,
    ⟨some 49, (Op.binOp BinOp.eql 3 (Operand.tmp 45) (Operand.tmp 48) 3), some (42, true)⟩,
    ⟨some 50, (Op.pick (Operand.tmp 42) (Operand.tmp 49) (Operand.const (Value.bool false))), none⟩,
    ⟨some 51, (Op.move (Operand.tmp 50)), none⟩,
    ⟨some 52, (Op.move (Operand.tmp 0)), some (51, true)⟩,
    ⟨some 53, (Op.move (Operand.tmp 1)), some (51, true)⟩,
    ⟨some 54, (Op.move (Operand.tmp 3)), some (51, true)⟩,
    ⟨some 55, (Op.call { callee := (Callee.value (Operand.func 66)), args := #[(Operand.tmp 52), (Operand.tmp 53), (Operand.tmp 54)], argTypes := #[22, 22, 3] }), some (51, true)⟩,
    ⟨some 56, (Op.move (Operand.tmp 0)), some (51, true)⟩,
    ⟨some 57, (Op.move (Operand.tmp 1)), some (51, true)⟩,
    ⟨some 58, (Op.move (Operand.tmp 3)), some (51, true)⟩,
    ⟨some 59, (Op.call { callee := (Callee.value (Operand.func 67)), args := #[(Operand.tmp 56), (Operand.tmp 57), (Operand.tmp 58)], argTypes := #[22, 22, 3] }), some (51, true)⟩,
    ⟨some 60, (Op.binOp BinOp.eql 3 (Operand.tmp 55) (Operand.tmp 59) 3), some (51, true)⟩,
    ⟨some 61, (Op.pick (Operand.tmp 51) (Operand.tmp 60) (Operand.const (Value.bool false))), none⟩,
    ⟨some 62, (Op.move (Operand.tmp 61)), none⟩,
    ⟨some 63, (Op.move (Operand.tmp 2)), some (62, true)⟩,
    ⟨some 64, (Op.call { callee := (Callee.value (Operand.func 68)), args := #[(Operand.tmp 63)], argTypes := #[3] }), some (62, true)⟩,
    ⟨some 65, (Op.move (Operand.tmp 9)), some (62, true)⟩,
    ⟨some 66, (Op.call { callee := (Callee.value (Operand.func 62)), args := #[(Operand.tmp 64), (Operand.tmp 65)], argTypes := #[22, 22] }), some (62, true)⟩,
    ⟨some 67, (Op.pick (Operand.tmp 62) (Operand.tmp 66) (Operand.const (Value.bool false))), none⟩,
    ⟨some 68, (Op.move (Operand.tmp 67)), none⟩,
    ⟨some 69, (Op.move (Operand.tmp 1)), some (68, true)⟩,
    ⟨some 70, (Op.move (Operand.tmp 0)), some (68, true)⟩,
    ⟨some 71, (Op.call { callee := (Callee.value (Operand.func 69)), args := #[(Operand.tmp 69), (Operand.tmp 70)], argTypes := #[22, 22] }), some (68, true)⟩,
    ⟨some 72, (Op.move (Operand.tmp 1)), some (68, true)⟩,
    ⟨some 73, (Op.move (Operand.tmp 0)), some (68, true)⟩,
    ⟨some 74, (Op.call { callee := (Callee.value (Operand.func 62)), args := #[(Operand.tmp 72), (Operand.tmp 73)], argTypes := #[22, 22] }), some (68, true)⟩,
    ⟨some 75, (Op.binOp BinOp.eql 4 (Operand.tmp 71) (Operand.tmp 74) 4), some (68, true)⟩,
    ⟨some 76, (Op.pick (Operand.tmp 68) (Operand.tmp 75) (Operand.const (Value.bool false))), none⟩,
    ⟨some 8, (Op.assign (Operand.tmp 76)), none⟩])
  .ret))))
noncomputable def b25 : Code := Try.f25.body.getD .skip
theorem hb25 : Try.f25.body = some b25 := by kernel_rfl
theorem sh25 : shortC A25 b25 = c25 := by kernel_rfl
theorem ok25 : (okSlots Try.f25.ntmps b25 && okRecs A25 b25) = true := by kernel_rfl
def rs25 : List ResultVar := [(ResultVar.tmp 8)]
theorem hr25 : Try.f25.results.toList = rs25 := by kernel_rfl

/-! parquetry/parquetrylaw15.known (0 parameters; calls 62 parquetry/parquetrybook.Same[int], 63 parquetry/spec.Right, 64 parquetry/spec.Parts, 65 parquetry/spec.Copies, 66 parquetry/spec.First, 68 parquetry/spec.Whole, 69 parquetry/spec.Same) -/
def A26 : Ann := { drop := fun i => false }
noncomputable def c26 : Cc :=
  (.seq (.reg false [⟨some 0, (Op.assign (Operand.const (Value.bool false))), none⟩])
  (.seq (.reg false [⟨some 1, (Op.buildSlice 22 2 #[(0, (Operand.const (Value.int IntKind.i64 2))), (1, (Operand.const (Value.int IntKind.i64 4)))]), none⟩,
    ⟨some 2, (Op.buildSlice 22 1 #[(0, (Operand.const (Value.int IntKind.i64 1)))]), none⟩,
    ⟨some 3, (Op.call { callee := (Callee.value (Operand.func 65)), args := #[(Operand.tmp 1), (Operand.tmp 2)], argTypes := #[22, 22] }), none⟩,
    ⟨some 4, (Op.binOp BinOp.eql 3 (Operand.tmp 3) (Operand.const (Value.int IntKind.i64 2)) 3), none⟩,
    ⟨some 5, (Op.move (Operand.tmp 4)), none⟩,
    ⟨some 6, (Op.buildSlice 22 1 #[(0, (Operand.const (Value.int IntKind.i64 2)))]), some (5, true)⟩,
    ⟨some 7, (Op.buildSlice 22 2 #[(0, (Operand.const (Value.int IntKind.i64 0))), (1, (Operand.const (Value.int IntKind.i64 0)))]), some (5, true)⟩,
    ⟨some 8, (Op.call { callee := (Callee.value (Operand.func 63)), args := #[(Operand.tmp 6), (Operand.tmp 7), (Operand.const (Value.int IntKind.i64 2))], argTypes := #[22, 22, 3] }), some (5, true)⟩,
    ⟨some 9, (Op.unOp UnOp.not 4 (Operand.tmp 8)), some (5, true)⟩,
    ⟨some 10, (Op.pick (Operand.tmp 5) (Operand.tmp 9) (Operand.const (Value.bool false))), none⟩,
    ⟨some 11, (Op.move (Operand.tmp 10)), none⟩,
    ⟨some 12, (Op.buildSlice 22 2 #[(0, (Operand.const (Value.int IntKind.i64 2))), (1, (Operand.const (Value.int IntKind.i64 4)))]), some (11, true)⟩,
    ⟨some 13, (Op.buildSlice 22 1 #[(0, (Operand.const (Value.int IntKind.i64 (-1))))]), some (11, true)⟩,
    ⟨some 14, (Op.call { callee := (Callee.value (Operand.func 66)), args := #[(Operand.tmp 12), (Operand.tmp 13), (Operand.const (Value.int IntKind.i64 7))], argTypes := #[22, 22, 3] }), some (11, true)⟩,
    ⟨some 15, (Op.binOp BinOp.eql 3 (Operand.tmp 14) (Operand.const (Value.int IntKind.i64 0)) 3), some (11, true)⟩,
    ⟨some 16, (Op.pick (Operand.tmp 11) (Operand.tmp 15) (Operand.const (Value.bool false))), none⟩,
    ⟨some 17, (Op.move (Operand.tmp 16)), none⟩,
    ⟨some 18, (Op.buildSlice 22 2 #[(0, (Operand.const (Value.int IntKind.i64 2))), (1, (Operand.const (Value.int IntKind.i64 4)))]), some (17, true)⟩,
    ⟨some 19, (Op.buildSlice 22 2 #[(0, (Operand.const (Value.int IntKind.i64 1))), (1, (Operand.const (Value.int IntKind.i64 (-1))))]), some (17, true)⟩,
    ⟨some 20, (Op.call { callee := (Callee.value (Operand.func 64)), args := #[(Operand.tmp 18), (Operand.tmp 19)], argTypes := #[22, 22] }), some (17, true)⟩,
    ⟨some 21, (Op.buildSlice 22 2 #[(0, (Operand.const (Value.int IntKind.i64 4))), (1, (Operand.const (Value.int IntKind.i64 1)))]), some (17, true)⟩,
    ⟨some 22, (Op.call { callee := (Callee.value (Operand.func 62)), args := #[(Operand.tmp 20), (Operand.tmp 21)], argTypes := #[22, 22] }), some (17, true)⟩,
    ⟨some 23, (Op.pick (Operand.tmp 17) (Operand.tmp 22) (Operand.const (Value.bool false))), none⟩,
    ⟨some 24, (Op.move (Operand.tmp 23)), none⟩,
    ⟨some 25, (Op.call { callee := (Callee.value (Operand.func 68)), args := #[(Operand.const (Value.int IntKind.i64 2))], argTypes := #[3] }), some (24, true)⟩,
    ⟨some 26, (Op.buildSlice 22 2 #[(0, (Operand.const (Value.int IntKind.i64 (-1)))), (1, (Operand.const (Value.int IntKind.i64 (-1))))]), some (24, true)⟩,
    ⟨some 27, (Op.call { callee := (Callee.value (Operand.func 62)), args := #[(Operand.tmp 25), (Operand.tmp 26)], argTypes := #[22, 22] }), some (24, true)⟩,
    ⟨some 28, (Op.pick (Operand.tmp 24) (Operand.tmp 27) (Operand.const (Value.bool false))), none⟩,
    ⟨some 29, (Op.move (Operand.tmp 28)), none⟩,
    ⟨some 30, (Op.call { callee := (Callee.value (Operand.func 69)), args := #[(Operand.const (Value.slice none 0 0)), (Operand.const (Value.slice none 0 0))], argTypes := #[22, 22] }), some (29, true)⟩,
    ⟨some 31, (Op.pick (Operand.tmp 29) (Operand.tmp 30) (Operand.const (Value.bool false))), none⟩,
    ⟨some 0, (Op.assign (Operand.tmp 31)), none⟩])
  .ret))
noncomputable def b26 : Code := Try.f26.body.getD .skip
theorem hb26 : Try.f26.body = some b26 := by kernel_rfl
theorem sh26 : shortC A26 b26 = c26 := by kernel_rfl
theorem ok26 : (okSlots Try.f26.ntmps b26 && okRecs A26 b26) = true := by kernel_rfl
def rs26 : List ResultVar := [(ResultVar.tmp 0)]
theorem hr26 : Try.f26.results.toList = rs26 := by kernel_rfl

/-! parquetry/parquetrylaw15.SpecNumbers (0 parameters; calls 25 parquetry/parquetrylaw15.same, 26 parquetry/parquetrylaw15.known) -/
def A4 : Ann := { live := fun i => if i = 2 then [14, 15, 16] else if i = 5 then [2, 3, 14, 15, 16] else if i = 8 then [2, 3, 4, 14, 15, 16] else if i = 11 then [2, 3, 4, 5, 14, 15, 16] else if i = 15 then [2, 3, 4, 5, 6, 7, 14, 15, 16] else [], drop := fun i => false }
noncomputable def c4 : Cc :=
  (.seq (.reg false [⟨some 0, (Op.assign (Operand.const (Value.bool false))), none⟩])
  (.seq (.seq (.reg false [⟨some 8, (Op.buildSlice 22 1 #[(0, (Operand.const (Value.int IntKind.i64 2)))]), none⟩,
    ⟨some 9, (Op.buildSlice 22 2 #[(0, (Operand.const (Value.int IntKind.i64 2))), (1, (Operand.const (Value.int IntKind.i64 4)))]), none⟩,
    ⟨some 10, (Op.buildSlice 22 3 #[(0, (Operand.const (Value.int IntKind.i64 2))), (1, (Operand.const (Value.int IntKind.i64 2))), (2, (Operand.const (Value.int IntKind.i64 2)))]), none⟩,
    ⟨some 11, (Op.buildSlice 22 2 #[(0, (Operand.const (Value.int IntKind.i64 3))), (1, (Operand.const (Value.int IntKind.i64 1)))]), none⟩,
    ⟨some 12, (Op.buildSlice 22 1 #[(0, (Operand.const (Value.int IntKind.i64 9)))]), none⟩,
    ⟨some 13, (Op.buildSlice 22 1 #[(0, (Operand.const (Value.int IntKind.i64 1)))]), none⟩,
    ⟨some 14, (Op.buildSlice 26 7 #[(0, (Operand.const (Value.slice none 0 0))), (1, (Operand.tmp 8)), (2, (Operand.tmp 9)), (3, (Operand.tmp 10)), (4, (Operand.tmp 11)), (5, (Operand.tmp 12)), (6, (Operand.tmp 13))]), none⟩,
    ⟨some 15, (Op.call { callee := (Callee.builtin Builtin.len), args := #[(Operand.tmp 14)], argTypes := #[26] }), none⟩,
    ⟨some 16, (Op.move (Operand.const (Value.int IntKind.i64 0))), none⟩])
  (.block 0 (.loop [14, 15, 16] false
    (.seq (.reg false [⟨some 17, (Op.binOp BinOp.lss 3 (Operand.tmp 16) (Operand.tmp 15) 3), none⟩])
    (.seq (.cond (Operand.tmp 17)
      .skip
      (.exit 0))
    (.seq (.block 1 (.seq (.reg false [⟨some 18, (Op.indexAddr 26 (Operand.tmp 14) (Operand.tmp 16)), none⟩,
      ⟨some 19, (Op.load 22 (Operand.tmp 18)), none⟩,
      ⟨some 2, (Op.assign (Operand.tmp 19)), none⟩])
    (.seq (.reg false [⟨some 3, (Op.assign (Operand.const (Value.int IntKind.i64 (-2)))), none⟩])
    (.block 2 (.loop [2, 3, 14, 15, 16] false
      (.seq (.seq (.reg false [⟨some 20, (Op.move (Operand.tmp 3)), none⟩,
        ⟨some 21, (Op.binOp BinOp.lss 3 (Operand.tmp 20) (Operand.const (Value.int IntKind.i64 4)) 3), none⟩])
      (.cond (Operand.tmp 21)
        .skip
        (.exit 2)))
      (.seq (.block 3 (.seq (.reg false [⟨some 4, (Op.assign (Operand.const (Value.int IntKind.i64 (-2)))), none⟩])
      (.block 4 (.loop [2, 3, 4, 14, 15, 16] false
        (.seq (.seq (.reg false [⟨some 24, (Op.move (Operand.tmp 4)), none⟩,
          ⟨some 25, (Op.binOp BinOp.lss 3 (Operand.tmp 24) (Operand.const (Value.int IntKind.i64 4)) 3), none⟩])
        (.cond (Operand.tmp 25)
          .skip
          (.exit 4)))
        (.seq (.block 5 (.seq (.reg false [⟨some 5, (Op.assign (Operand.const (Value.int IntKind.i64 0))), none⟩])
        (.block 6 (.loop [2, 3, 4, 5, 14, 15, 16] false
          (.seq (.seq (.reg false [⟨some 28, (Op.move (Operand.tmp 5)), none⟩,
            ⟨some 29, (Op.binOp BinOp.lss 3 (Operand.tmp 28) (Operand.const (Value.int IntKind.i64 4)) 3), none⟩])
          (.cond (Operand.tmp 29)
            .skip
            (.exit 6)))
          (.seq (.block 7 (.seq (.reg false [⟨some 32, (Op.move (Operand.tmp 3)), none⟩,
            ⟨some 33, (Op.move (Operand.tmp 4)), none⟩,
            ⟨some 34, (Op.buildSlice 22 3 #[(0, (Operand.tmp 32)), (1, (Operand.tmp 33)), (2, (Operand.const (Value.int IntKind.i64 (-1))))]), none⟩,
            ⟨some 35, (Op.move (Operand.tmp 5)), none⟩,
            ⟨some 36, (Op.slice 22 (Operand.tmp 34) none (some (Operand.tmp 35)) none), none⟩,
            ⟨some 6, (Op.assign (Operand.tmp 36)), none⟩])
          (.seq (.reg false [⟨some 7, (Op.assign (Operand.const (Value.int IntKind.i64 (-1)))), none⟩])
          (.block 8 (.loop [2, 3, 4, 5, 6, 7, 14, 15, 16] false
            (.seq (.seq (.reg false [⟨some 37, (Op.move (Operand.tmp 7)), none⟩,
              ⟨some 38, (Op.binOp BinOp.lss 3 (Operand.tmp 37) (Operand.const (Value.int IntKind.i64 9)) 3), none⟩])
            (.cond (Operand.tmp 38)
              .skip
              (.exit 8)))
            (.seq (.block 9 (.seq (.reg false [⟨some 41, (Op.move (Operand.tmp 2)), none⟩,
              ⟨some 42, (Op.move (Operand.tmp 6)), none⟩,
              ⟨some 43, (Op.move (Operand.tmp 5)), none⟩,
              ⟨some 44, (Op.move (Operand.tmp 7)), none⟩,
              ⟨some 45, (Op.call { callee := (Callee.value (Operand.func 25)), args := #[(Operand.tmp 41), (Operand.tmp 42), (Operand.tmp 43), (Operand.tmp 44)], argTypes := #[22, 22, 3, 3] }), none⟩,
              ⟨some 46, (Op.unOp UnOp.not 4 (Operand.tmp 45)), none⟩,
              ⟨some 47, (Op.move (Operand.tmp 46)), none⟩,
              ⟨some 48, (Op.move (Operand.tmp 2)), some (47, false)⟩,
              ⟨some 49, (Op.move (Operand.tmp 6)), some (47, false)⟩,
              ⟨some 50, (Op.move (Operand.tmp 7)), some (47, false)⟩,
              ⟨some 51, (Op.move (Operand.tmp 7)), some (47, false)⟩,
              ⟨some 52, (Op.call { callee := (Callee.value (Operand.func 25)), args := #[(Operand.tmp 48), (Operand.tmp 49), (Operand.tmp 50), (Operand.tmp 51)], argTypes := #[22, 22, 3, 3] }), some (47, false)⟩,
              ⟨some 53, (Op.unOp UnOp.not 4 (Operand.tmp 52)), some (47, false)⟩,
              ⟨some 54, (Op.pick (Operand.tmp 47) (Operand.const (Value.bool true)) (Operand.tmp 53)), none⟩])
            (.cond (Operand.tmp 54)
              (.seq (.reg false [⟨some 0, (Op.assign (Operand.const (Value.bool false))), none⟩])
              .ret)
              .skip)))
            (.reg false [⟨some 39, (Op.move (Operand.tmp 7)), none⟩,
              ⟨some 40, (Op.binOp BinOp.add 3 (Operand.tmp 39) (Operand.const (Value.int IntKind.i64 1)) 3), none⟩,
              ⟨some 7, (Op.assign (Operand.tmp 40)), none⟩]))))))))
          (.reg false [⟨some 30, (Op.move (Operand.tmp 5)), none⟩,
            ⟨some 31, (Op.binOp BinOp.add 3 (Operand.tmp 30) (Operand.const (Value.int IntKind.i64 1)) 3), none⟩,
            ⟨some 5, (Op.assign (Operand.tmp 31)), none⟩])))))))
        (.reg false [⟨some 26, (Op.move (Operand.tmp 4)), none⟩,
          ⟨some 27, (Op.binOp BinOp.add 3 (Operand.tmp 26) (Operand.const (Value.int IntKind.i64 1)) 3), none⟩,
          ⟨some 4, (Op.assign (Operand.tmp 27)), none⟩])))))))
      (.reg false [⟨some 22, (Op.move (Operand.tmp 3)), none⟩,
        ⟨some 23, (Op.binOp BinOp.add 3 (Operand.tmp 22) (Operand.const (Value.int IntKind.i64 1)) 3), none⟩,
        ⟨some 3, (Op.assign (Operand.tmp 23)), none⟩]))))))))
    (.reg false [⟨some 55, (Op.binOp BinOp.add 3 (Operand.tmp 16) (Operand.const (Value.int IntKind.i64 1)) 3), none⟩,
      ⟨some 16, (Op.move (Operand.tmp 55)), none⟩])))))))
  (.seq (.reg false [⟨some 56, (Op.call { callee := (Callee.value (Operand.func 26)), args := #[], argTypes := #[] }), none⟩,
    ⟨some 0, (Op.assign (Operand.tmp 56)), none⟩])
  .ret)))
noncomputable def b4 : Code := Try.f4.body.getD .skip
theorem hb4 : Try.f4.body = some b4 := by kernel_rfl
theorem sh4 : shortC A4 b4 = c4 := by kernel_rfl
theorem ok4 : (okSlots Try.f4.ntmps b4 && okRecs A4 b4) = true := by kernel_rfl
def rs4 : List ResultVar := [(ResultVar.tmp 0)]
theorem hr4 : Try.f4.results.toList = rs4 := by kernel_rfl


end Go.Proofs.Ytokadkakmhfdeaa.Pq
