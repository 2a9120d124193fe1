/- Functions in short form. -/
import Derived.Test.YtokadkakmhfdeaaPqS
import Derived.Test.YtokadkakmhfdeaaPqT
set_option linter.unusedVariables false
namespace Go.Proofs.Ytokadkakmhfdeaa.Pq
open Go.RowKit

/-! parquetry/parquetrybook.Within (3 parameters; calls none) -/
def A45 : Ann := { drop := fun i => false }
noncomputable def c45 : Cc :=
  (.seq (.reg false [⟨some 6, (Op.assign (Operand.const (Value.int IntKind.i64 0))), none⟩])
  (.seq (.seq (.reg false [⟨some 7, (Op.move (Operand.tmp 0)), none⟩,
    ⟨some 8, (Op.move (Operand.tmp 1)), none⟩,
    ⟨some 9, (Op.binOp BinOp.geq 3 (Operand.tmp 7) (Operand.tmp 8) 3), none⟩,
    ⟨some 10, (Op.move (Operand.tmp 9)), none⟩,
    ⟨some 11, (Op.move (Operand.tmp 0)), some (10, true)⟩,
    ⟨some 12, (Op.move (Operand.tmp 2)), some (10, true)⟩,
    ⟨some 13, (Op.binOp BinOp.leq 3 (Operand.tmp 11) (Operand.tmp 12) 3), some (10, true)⟩,
    ⟨some 14, (Op.pick (Operand.tmp 10) (Operand.tmp 13) (Operand.const (Value.bool false))), none⟩])
  (.cond (Operand.tmp 14)
    (.seq (.reg false [⟨some 15, (Op.move (Operand.tmp 0)), none⟩,
      ⟨some 6, (Op.assign (Operand.tmp 15)), none⟩])
    .ret)
    .skip))
  (.seq (.reg false [⟨some 16, (Op.move (Operand.tmp 0)), none⟩,
    ⟨some 17, (Op.move (Operand.tmp 2)), none⟩,
    ⟨some 18, (Op.move (Operand.tmp 1)), none⟩,
    ⟨some 19, (Op.binOp BinOp.sub 3 (Operand.tmp 17) (Operand.tmp 18) 3), none⟩,
    ⟨some 20, (Op.binOp BinOp.add 3 (Operand.tmp 19) (Operand.const (Value.int IntKind.i64 1)) 3), none⟩,
    ⟨some 21, (Op.binOp BinOp.rem 3 (Operand.tmp 16) (Operand.tmp 20) 3), none⟩,
    ⟨some 0, (Op.assign (Operand.tmp 21)), none⟩])
  (.seq (.seq (.reg false [⟨some 22, (Op.move (Operand.tmp 0)), none⟩,
    ⟨some 23, (Op.binOp BinOp.lss 3 (Operand.tmp 22) (Operand.const (Value.int IntKind.i64 0)) 3), none⟩])
  (.cond (Operand.tmp 23)
    (.reg false [⟨some 24, (Op.move (Operand.tmp 0)), none⟩,
      ⟨some 25, (Op.move (Operand.tmp 2)), none⟩,
      ⟨some 26, (Op.binOp BinOp.add 3 (Operand.tmp 24) (Operand.tmp 25) 3), none⟩,
      ⟨some 27, (Op.move (Operand.tmp 1)), none⟩,
      ⟨some 28, (Op.binOp BinOp.sub 3 (Operand.tmp 26) (Operand.tmp 27) 3), none⟩,
      ⟨some 29, (Op.binOp BinOp.add 3 (Operand.tmp 28) (Operand.const (Value.int IntKind.i64 1)) 3), none⟩,
      ⟨some 0, (Op.assign (Operand.tmp 29)), none⟩])
    .skip))
  (.seq (.reg false [⟨some 30, (Op.move (Operand.tmp 1)), none⟩,
    ⟨some 31, (Op.move (Operand.tmp 0)), none⟩,
    ⟨some 32, (Op.binOp BinOp.add 3 (Operand.tmp 30) (Operand.tmp 31) 3), none⟩,
    ⟨some 6, (Op.assign (Operand.tmp 32)), none⟩])
  .ret)))))
noncomputable def b45 : Code := Try.f45.body.getD .skip
theorem hb45 : Try.f45.body = some b45 := by kernel_rfl
theorem sh45 : shortC A45 b45 = c45 := by kernel_rfl
theorem ok45 : (okSlots Try.f45.ntmps b45 && okRecs A45 b45) = true := by kernel_rfl
def rs45 : List ResultVar := [(ResultVar.tmp 6)]
theorem hr45 : Try.f45.results.toList = rs45 := by kernel_rfl

/-! parquetry/mesh.Right (1 parameters; calls none) -/
def A89 : Ann := { live := fun i => if i = 5 then [3, 9, 10, 11] else [], drop := fun i => false }
noncomputable def c89 : Cc :=
  (.seq (.reg false [⟨some 2, (Op.assign (Operand.const (Value.bool false))), none⟩])
  (.seq (.seq (.reg false [⟨some 6, (Op.move (Operand.tmp 0)), none⟩,
    ⟨some 7, (Op.call { callee := (Callee.builtin Builtin.len), args := #[(Operand.tmp 6)], argTypes := #[22] }), none⟩,
    ⟨some 8, (Op.binOp BinOp.gtr 3 (Operand.tmp 7) (Operand.const (Value.int IntKind.i64 3)) 3), none⟩])
  (.cond (Operand.tmp 8)
    (.seq (.reg false [⟨some 2, (Op.assign (Operand.const (Value.bool false))), none⟩])
    .ret)
    .skip))
  (.seq (.reg false [⟨some 3, (Op.assign (Operand.const (Value.int IntKind.i64 1))), none⟩])
  (.seq (.seq (.reg false [⟨some 9, (Op.move (Operand.tmp 0)), none⟩,
    ⟨some 10, (Op.call { callee := (Callee.builtin Builtin.len), args := #[(Operand.tmp 9)], argTypes := #[22] }), none⟩,
    ⟨some 11, (Op.move (Operand.const (Value.int IntKind.i64 0))), none⟩])
  (.block 0 (.loop [3, 9, 10, 11] false
    (.seq (.reg false [⟨some 12, (Op.binOp BinOp.lss 3 (Operand.tmp 11) (Operand.tmp 10) 3), none⟩])
    (.seq (.cond (Operand.tmp 12)
      .skip
      (.exit 0))
    (.seq (.block 1 (.seq (.reg false [⟨some 13, (Op.indexAddr 22 (Operand.tmp 9) (Operand.tmp 11)), none⟩,
      ⟨some 14, (Op.load 3 (Operand.tmp 13)), none⟩,
      ⟨some 5, (Op.assign (Operand.tmp 14)), none⟩])
    (.seq (.seq (.reg false [⟨some 15, (Op.move (Operand.tmp 5)), none⟩,
      ⟨some 16, (Op.binOp BinOp.lss 3 (Operand.tmp 15) (Operand.const (Value.int IntKind.i64 1)) 3), none⟩,
      ⟨some 17, (Op.move (Operand.tmp 16)), none⟩,
      ⟨some 18, (Op.move (Operand.tmp 5)), some (17, false)⟩,
      ⟨some 19, (Op.binOp BinOp.gtr 3 (Operand.tmp 18) (Operand.const (Value.int IntKind.i64 8)) 3), some (17, false)⟩,
      ⟨some 20, (Op.pick (Operand.tmp 17) (Operand.const (Value.bool true)) (Operand.tmp 19)), none⟩])
    (.cond (Operand.tmp 20)
      (.seq (.reg false [⟨some 2, (Op.assign (Operand.const (Value.bool false))), none⟩])
      .ret)
      .skip))
    (.reg false [⟨some 21, (Op.move (Operand.tmp 3)), none⟩,
      ⟨some 22, (Op.move (Operand.tmp 5)), none⟩,
      ⟨some 23, (Op.binOp BinOp.mul 3 (Operand.tmp 21) (Operand.tmp 22) 3), none⟩,
      ⟨some 3, (Op.assign (Operand.tmp 23)), none⟩]))))
    (.reg false [⟨some 24, (Op.binOp BinOp.add 3 (Operand.tmp 11) (Operand.const (Value.int IntKind.i64 1)) 3), none⟩,
      ⟨some 11, (Op.move (Operand.tmp 24)), none⟩])))))))
  (.seq (.reg false [⟨some 25, (Op.move (Operand.tmp 3)), none⟩,
    ⟨some 26, (Op.binOp BinOp.leq 3 (Operand.tmp 25) (Operand.const (Value.int IntKind.i64 8)) 3), none⟩,
    ⟨some 2, (Op.assign (Operand.tmp 26)), none⟩])
  .ret)))))
noncomputable def b89 : Code := Try.f89.body.getD .skip
theorem hb89 : Try.f89.body = some b89 := by kernel_rfl
theorem sh89 : shortC A89 b89 = c89 := by kernel_rfl
theorem ok89 : (okSlots Try.f89.ntmps b89 && okRecs A89 b89) = true := by kernel_rfl
def rs89 : List ResultVar := [(ResultVar.tmp 2)]
theorem hr89 : Try.f89.results.toList = rs89 := by kernel_rfl

/-! parquetry/tile.Width (2 parameters; calls none) -/
def A61 : Ann := { drop := fun i => false }
noncomputable def c61 : Cc :=
  (.seq (.reg false [⟨some 4, (Op.assign (Operand.const (Value.int IntKind.i64 0))), none⟩])
  (.seq (.seq (.reg false [⟨some 5, (Op.move (Operand.tmp 0)), none⟩,
    ⟨some 6, (Op.binOp BinOp.lss 3 (Operand.tmp 5) (Operand.const (Value.int IntKind.i64 0)) 3), none⟩,
    ⟨some 7, (Op.move (Operand.tmp 6)), none⟩,
    ⟨some 8, (Op.move (Operand.tmp 1)), some (7, false)⟩,
    ⟨some 9, (Op.binOp BinOp.lss 3 (Operand.tmp 8) (Operand.const (Value.int IntKind.i64 1)) 3), some (7, false)⟩,
    ⟨some 10, (Op.pick (Operand.tmp 7) (Operand.const (Value.bool true)) (Operand.tmp 9)), none⟩])
  (.cond (Operand.tmp 10)
    (.seq (.reg false [⟨some 4, (Op.assign (Operand.const (Value.int IntKind.i64 0))), none⟩])
    .ret)
    .skip))
  (.seq (.seq (.reg false [⟨some 11, (Op.move (Operand.tmp 0)), none⟩,
    ⟨some 12, (Op.binOp BinOp.eql 3 (Operand.tmp 11) (Operand.const (Value.int IntKind.i64 0)) 3), none⟩])
  (.cond (Operand.tmp 12)
    (.seq (.reg false [⟨some 4, (Op.assign (Operand.const (Value.int IntKind.i64 0))), none⟩])
    .ret)
    .skip))
  (.seq (.reg false [⟨some 13, (Op.move (Operand.tmp 0)), none⟩,
    ⟨some 14, (Op.binOp BinOp.sub 3 (Operand.tmp 13) (Operand.const (Value.int IntKind.i64 1)) 3), none⟩,
    ⟨some 15, (Op.move (Operand.tmp 1)), none⟩,
    ⟨some 16, (Op.binOp BinOp.quo 3 (Operand.tmp 14) (Operand.tmp 15) 3), none⟩,
    ⟨some 17, (Op.binOp BinOp.add 3 (Operand.tmp 16) (Operand.const (Value.int IntKind.i64 1)) 3), none⟩,
    ⟨some 4, (Op.assign (Operand.tmp 17)), none⟩])
  .ret))))
noncomputable def b61 : Code := Try.f61.body.getD .skip
theorem hb61 : Try.f61.body = some b61 := by kernel_rfl
theorem sh61 : shortC A61 b61 = c61 := by kernel_rfl
theorem ok61 : (okSlots Try.f61.ntmps b61 && okRecs A61 b61) = true := by kernel_rfl
def rs61 : List ResultVar := [(ResultVar.tmp 4)]
theorem hr61 : Try.f61.results.toList = rs61 := by kernel_rfl

/-! parquetry/tile.times (3 parameters; calls none) -/
def A124 : Ann := { drop := fun i => false }
noncomputable def c124 : Cc :=
  (.seq (.reg false [⟨some 6, (Op.assign (Operand.const (Value.int IntKind.i64 0))), none⟩])
  (.seq (.seq (.reg false [⟨some 7, (Op.move (Operand.tmp 0)), none⟩,
    ⟨some 8, (Op.binOp BinOp.gtr 3 (Operand.tmp 7) (Operand.const (Value.int IntKind.i64 0)) 3), none⟩,
    ⟨some 9, (Op.move (Operand.tmp 8)), none⟩,
    ⟨some 10, (Op.move (Operand.tmp 1)), some (9, true)⟩,
    ⟨some 11, (Op.move (Operand.tmp 2)), some (9, true)⟩,
    ⟨some 12, (Op.move (Operand.tmp 0)), some (9, true)⟩,
    ⟨some 13, (Op.binOp BinOp.quo 3 (Operand.tmp 11) (Operand.tmp 12) 3), some (9, true)⟩,
    ⟨some 14, (Op.binOp BinOp.gtr 3 (Operand.tmp 10) (Operand.tmp 13) 3), some (9, true)⟩,
    ⟨some 15, (Op.pick (Operand.tmp 9) (Operand.tmp 14) (Operand.const (Value.bool false))), none⟩])
  (.cond (Operand.tmp 15)
    (.seq (.reg false [⟨some 16, (Op.move (Operand.tmp 2)), none⟩,
      ⟨some 6, (Op.assign (Operand.tmp 16)), none⟩])
    .ret)
    .skip))
  (.seq (.reg false [⟨some 17, (Op.move (Operand.tmp 0)), none⟩,
    ⟨some 18, (Op.move (Operand.tmp 1)), none⟩,
    ⟨some 19, (Op.binOp BinOp.mul 3 (Operand.tmp 17) (Operand.tmp 18) 3), none⟩,
    ⟨some 20, (Op.move (Operand.tmp 2)), none⟩,
    ⟨some 21, (Op.call { callee := (Callee.builtin Builtin.min), args := #[(Operand.tmp 19), (Operand.tmp 20)], argTypes := #[3, 3] }), none⟩,
    ⟨some 6, (Op.assign (Operand.tmp 21)), none⟩])
  .ret)))
noncomputable def b124 : Code := Try.f124.body.getD .skip
theorem hb124 : Try.f124.body = some b124 := by kernel_rfl
theorem sh124 : shortC A124 b124 = c124 := by kernel_rfl
theorem ok124 : (okSlots Try.f124.ntmps b124 && okRecs A124 b124) = true := by kernel_rfl
def rs124 : List ResultVar := [(ResultVar.tmp 6)]
theorem hr124 : Try.f124.results.toList = rs124 := by kernel_rfl

/-! parquetry/tile.Cut (3 parameters; calls 61 parquetry/tile.Width, 124 parquetry/tile.times) -/
def A60 : Ann := { drop := fun i => false }
noncomputable def c60 : Cc :=
  (.seq (.reg false [⟨some 6, (Op.assign (Operand.const (Value.int IntKind.i64 0))), none⟩,
    ⟨some 7, (Op.assign (Operand.const (Value.int IntKind.i64 0))), none⟩])
  (.seq (.reg false [⟨some 9, (Op.move (Operand.tmp 0)), none⟩,
    ⟨some 10, (Op.move (Operand.tmp 1)), none⟩,
    ⟨some 11, (Op.call { callee := (Callee.value (Operand.func 61)), args := #[(Operand.tmp 9), (Operand.tmp 10)], argTypes := #[3, 3] }), none⟩,
    ⟨some 8, (Op.assign (Operand.tmp 11)), none⟩])
  (.seq (.seq (.reg false [⟨some 12, (Op.move (Operand.tmp 8)), none⟩,
    ⟨some 13, (Op.binOp BinOp.eql 3 (Operand.tmp 12) (Operand.const (Value.int IntKind.i64 0)) 3), none⟩,
    ⟨some 14, (Op.move (Operand.tmp 13)), none⟩,
    ⟨some 15, (Op.move (Operand.tmp 2)), some (14, false)⟩,
    ⟨some 16, (Op.binOp BinOp.lss 3 (Operand.tmp 15) (Operand.const (Value.int IntKind.i64 0)) 3), some (14, false)⟩,
    ⟨some 17, (Op.pick (Operand.tmp 14) (Operand.const (Value.bool true)) (Operand.tmp 16)), none⟩,
    ⟨some 18, (Op.move (Operand.tmp 17)), none⟩,
    ⟨some 19, (Op.move (Operand.tmp 2)), some (18, false)⟩,
    ⟨some 20, (Op.move (Operand.tmp 1)), some (18, false)⟩,
    ⟨some 21, (Op.binOp BinOp.geq 3 (Operand.tmp 19) (Operand.tmp 20) 3), some (18, false)⟩,
    ⟨some 22, (Op.pick (Operand.tmp 18) (Operand.const (Value.bool true)) (Operand.tmp 21)), none⟩])
  (.cond (Operand.tmp 22)
    (.seq (.reg false [⟨some 6, (Op.assign (Operand.const (Value.int IntKind.i64 0))), none⟩,
      ⟨some 7, (Op.assign (Operand.const (Value.int IntKind.i64 0))), none⟩])
    .ret)
    .skip))
  (.seq (.reg false [⟨some 23, (Op.move (Operand.tmp 8)), none⟩,
    ⟨some 24, (Op.move (Operand.tmp 2)), none⟩,
    ⟨some 25, (Op.move (Operand.tmp 0)), none⟩,
    ⟨some 26, (Op.call { callee := (Callee.value (Operand.func 124)), args := #[(Operand.tmp 23), (Operand.tmp 24), (Operand.tmp 25)], argTypes := #[3, 3, 3] }), none⟩,
    ⟨some 27, (Op.move (Operand.tmp 8)), none⟩,
    ⟨some 28, (Op.move (Operand.tmp 2)), none⟩,
    ⟨some 29, (Op.binOp BinOp.add 3 (Operand.tmp 28) (Operand.const (Value.int IntKind.i64 1)) 3), none⟩,
    ⟨some 30, (Op.move (Operand.tmp 0)), none⟩,
    ⟨some 31, (Op.call { callee := (Callee.value (Operand.func 124)), args := #[(Operand.tmp 27), (Operand.tmp 29), (Operand.tmp 30)], argTypes := #[3, 3, 3] }), none⟩,
    ⟨some 6, (Op.assign (Operand.tmp 26)), none⟩,
    ⟨some 7, (Op.assign (Operand.tmp 31)), none⟩])
  .ret))))
noncomputable def b60 : Code := Try.f60.body.getD .skip
theorem hb60 : Try.f60.body = some b60 := by kernel_rfl
theorem sh60 : shortC A60 b60 = c60 := by kernel_rfl
theorem ok60 : (okSlots Try.f60.ntmps b60 && okRecs A60 b60) = true := by kernel_rfl
def rs60 : List ResultVar := [(ResultVar.tmp 6), (ResultVar.tmp 7)]
theorem hr60 : Try.f60.results.toList = rs60 := by kernel_rfl


end Go.Proofs.Ytokadkakmhfdeaa.Pq
