/- What the proof of a statement of this seat rests on, part 8: PqCE, PqY9. -/
import Derived.Test.YtokadkakmhfdeaaMgSplitNumbers7
set_option linter.unusedVariables false
set_option linter.unusedSimpArgs false
set_option linter.unusedSectionVars false
namespace Go.Proofs.Ytokadkakmhfdeaa.Pq
open Go.RowKit
/- Functions in short form. -/
/-! parquetry/parquetrylaw17.SplitNumbers (0 parameters; calls 31 parquetry/parquetrylaw17.made, 32 parquetry/parquetrylaw17.tape, 33 parquetry/parquetrylaw17.same, 34 parquetry/parquetryref14.All, 35 parquetry/parquetrylaw17.joins, 36 parquetry/parquetrylaw17.known) -/
def A8 : Ann := { share := fun i => [11].contains i, recs := fun i => if i = 11 then [(18, 21), (22, 20), (22, 21), (23, 20), (23, 21), (24, 20), (24, 21), (25, 20), (25, 21), (30, 32), (30, 35), (32, 31), (33, 31), (35, 31), (35, 34), (36, 31), (36, 34), (41, 47), (41, 48), (42, 47), (42, 48), (43, 47), (43, 48), (44, 47), (44, 48), (45, 47)] else if i = 18 then [(0, 8), (0, 14), (1, 8), (1, 14), (2, 8), (2, 14), (3, 8), (3, 14), (4, 8), (4, 14), (5, 8), (5, 14), (6, 8), (6, 14), (8, 7), (9, 7), (10, 7), (11, 7), (12, 7)] else [], live := fun i => if i = 2 then [1] else if i = 6 then [1, 2, 3, 4, 5] else if i = 14 then [1, 2, 3, 4, 6, 90, 91] else [], drop := fun i => false }
noncomputable def c8 : Cc :=
  (.seq (.reg false [⟨some 0, (Op.assign (Operand.const (Value.bool false))), none⟩])
  (.seq (.seq (.reg false [⟨some 1, (Op.assign (Operand.const (Value.int IntKind.i64 0))), none⟩])
  (.block 0 (.loop [1] false
    (.seq (.seq (.reg false [⟨some 10, (Op.move (Operand.tmp 1)), none⟩,
      ⟨some 11, (Op.binOp BinOp.lss 3 (Operand.tmp 10) (Operand.const (Value.int IntKind.i64 100)) 3), none⟩])
    (.cond (Operand.tmp 11)
      .skip
      (.exit 0)))
    (.seq (.block 1 (.seq (.reg false [⟨some 15, (Op.move (Operand.tmp 1)), none⟩,
      ⟨some 16, (Op.call { callee := (Callee.value (Operand.func 32)), args := #[(Operand.tmp 15)], argTypes := #[3] }), none⟩,
      ⟨some 17, (Op.call { callee := (Callee.value (Operand.func 31)), args := #[(Operand.tmp 16)], argTypes := #[22] }), none⟩,
      ⟨some 14, (Op.move (Operand.tmp 17)), none⟩,
      ⟨some 18, (Op.extract (Operand.tmp 14) 0), none⟩,
      ⟨some 19, (Op.extract (Operand.tmp 14) 1), none⟩,
      ⟨some 20, (Op.extract (Operand.tmp 14) 2), none⟩,
      ⟨some 2, (Op.alloc 40), none⟩,
      ⟨none, (Op.store 40 (Operand.tmp 2) (Operand.tmp 18)), none⟩,
      ⟨some 3, (Op.assign (Operand.tmp 19)), none⟩,
      ⟨some 4, (Op.assign (Operand.tmp 20)), none⟩])
    (.seq (.seq (.reg false [⟨some 5, (Op.assign (Operand.const (Value.int IntKind.i64 (-1)))), none⟩])
    (.block 2 (.loop [1, 2, 3, 4, 5] false
      (.seq (.seq (.reg false [⟨some 21, (Op.move (Operand.tmp 5)), none⟩,
        ⟨some 22, (Op.binOp BinOp.lss 3 (Operand.tmp 21) (Operand.const (Value.int IntKind.i64 9)) 3), none⟩])
      (.cond (Operand.tmp 22)
        .skip
        (.exit 2)))
      (.seq (.block 3 (.seq (.reg false [⟨some 25, (Op.load 40 (Operand.tmp 2)), none⟩,
        ⟨some 26, (Op.move (Operand.tmp 3)), none⟩,
        ⟨some 27, (Op.move (Operand.tmp 4)), none⟩,
        ⟨some 28, (Op.move (Operand.tmp 5)), none⟩,
        ⟨some 29, (Op.call { callee := (Callee.value (Operand.func 33)), args := #[(Operand.tmp 25), (Operand.tmp 26), (Operand.tmp 27), (Operand.tmp 28)], argTypes := #[40, 22, 22, 3] }), none⟩,
        ⟨some 30, (Op.unOp UnOp.not 4 (Operand.tmp 29)), none⟩])
      (.cond (Operand.tmp 30)
        (.seq (.reg false [⟨some 0, (Op.assign (Operand.const (Value.bool false))), none⟩])
        .ret)
        .skip)))
      (.reg false [⟨some 23, (Op.move (Operand.tmp 5)), none⟩,
        ⟨some 24, (Op.binOp BinOp.add 3 (Operand.tmp 23) (Operand.const (Value.int IntKind.i64 1)) 3), none⟩,
        ⟨some 5, (Op.assign (Operand.tmp 24)), none⟩]))))))
    (.seq (.reg false [⟨some 32, (Op.load 40 (Operand.tmp 2)), none⟩,
      ⟨some 33, (Op.move (Operand.tmp 3)), none⟩,
      ⟨some 34, (Op.move (Operand.tmp 4)), none⟩,
      ⟨some 35, (Op.call { callee := (Callee.value (Operand.func 34)), args := #[(Operand.tmp 32), (Operand.tmp 33), (Operand.tmp 34)], argTypes := #[40, 22, 22] }), none⟩,
      ⟨some 31, (Op.move (Operand.tmp 35)), none⟩,
      ⟨some 36, (Op.extract (Operand.tmp 31) 0), none⟩,
      ⟨some 37, (Op.extract (Operand.tmp 31) 1), none⟩,
      ⟨some 6, (Op.assign (Operand.tmp 36)), none⟩,
      ⟨some 7, (Op.assign (Operand.tmp 37)), none⟩])
    (.seq (.seq (.drw true [⟨some 38, (Op.move (Operand.tmp 6)), none⟩,
      ⟨some 39, (Op.fieldAddr 40 (Operand.tmp 2) 0), none⟩,
      ⟨some 40, (Op.load 22 (Operand.tmp 39)), none⟩,
      ⟨some 41, (Op.move (Operand.tmp 3)), none⟩,
      ⟨some 42, (Op.move (Operand.tmp 4)), none⟩,
      ⟨some 43, (Op.call { callee := (Callee.value (Operand.func 35)), args := #[(Operand.tmp 38), (Operand.tmp 40), (Operand.tmp 41), (Operand.tmp 42)], argTypes := #[45, 22, 22, 22] }), none⟩,
      ⟨some 44, (Op.unOp UnOp.not 4 (Operand.tmp 43)), none⟩,
      ⟨some 45, (Op.move (Operand.tmp 44)), none⟩,
      ⟨some 46, (Op.move (Operand.tmp 6)), some (45, false)⟩,
      ⟨some 47, (Op.slice 45 (Operand.tmp 46) (some (Operand.const (Value.int IntKind.i64 1))) none none), some (45, false)⟩,
      ⟨some 48, (Op.fieldAddr 40 (Operand.tmp 2) 0), some (45, false)⟩,
      ⟨some 49, (Op.load 22 (Operand.tmp 48)), some (45, false)⟩,
      ⟨some 50, (Op.move (Operand.tmp 3)), some (45, false)⟩,
      ⟨some 51, (Op.move (Operand.tmp 4)), some (45, false)⟩,
      ⟨some 52, (Op.call { callee := (Callee.value (Operand.func 35)), args := #[(Operand.tmp 47), (Operand.tmp 49), (Operand.tmp 50), (Operand.tmp 51)], argTypes := #[45, 22, 22, 22] }), some (45, false)⟩,
      ⟨some 53, (Op.unOp UnOp.not 4 (Operand.tmp 52)), some (45, false)⟩,
      ⟨some 54, (Op.pick (Operand.tmp 45) (Operand.const (Value.bool true)) (Operand.tmp 53)), none⟩,
      ⟨some 55, (Op.move (Operand.tmp 54)), none⟩,
      ⟨some 56, (Op.move (Operand.tmp 6)), some (55, false)⟩,
      ⟨some 57, (Op.load 40 (Operand.tmp 2)), some (55, false)⟩,
      ⟨some 58, (Op.buildSlice 45 1 #[(0, (Operand.tmp 57))]), some (55, false)⟩,
      ⟨some 59, (Op.call { callee := (Callee.builtin Builtin.append), args := #[(Operand.tmp 56), (Operand.tmp 58)], argTypes := #[45, 45] }), some (55, false)⟩,
      ⟨some 60, (Op.fieldAddr 40 (Operand.tmp 2) 0), some (55, false)⟩,
      ⟨some 61, (Op.load 22 (Operand.tmp 60)), some (55, false)⟩,
      ⟨some 62, (Op.move (Operand.tmp 3)), some (55, false)⟩,
      ⟨some 63, (Op.move (Operand.tmp 4)), some (55, false)⟩,
      ⟨some 64, (Op.call { callee := (Callee.value (Operand.func 35)), args := #[(Operand.tmp 59), (Operand.tmp 61), (Operand.tmp 62), (Operand.tmp 63)], argTypes := #[45, 22, 22, 22] }), some (55, false)⟩,
      ⟨some 65, (Op.unOp UnOp.not 4 (Operand.tmp 64)), some (55, false)⟩,
      ⟨some 66, (Op.pick (Operand.tmp 55) (Operand.const (Value.bool true)) (Operand.tmp 65)), none⟩,
      ⟨some 67, (Op.move (Operand.tmp 66)), none⟩,
      ⟨some 68, (Op.move (Operand.tmp 6)), some (67, false)⟩,
      ⟨some 69, (Op.buildSlice 22 1 #[(0, (Operand.const (Value.int IntKind.i64 1)))]), some (67, false)⟩,
      ⟨some 70, (Op.fieldAddr 40 (Operand.tmp 2) 0), some (67, false)⟩,
      ⟨some 71, (Op.load 22 (Operand.tmp 70)), some (67, false)⟩,
      ⟨some 72, (Op.call { callee := (Callee.builtin Builtin.append), args := #[(Operand.tmp 69), (Operand.tmp 71)], argTypes := #[22, 22] }), some (67, false)⟩,
      ⟨some 73, (Op.move (Operand.tmp 3)), some (67, false)⟩,
      ⟨some 74, (Op.move (Operand.tmp 4)), some (67, false)⟩,
      ⟨some 75, (Op.call { callee := (Callee.value (Operand.func 35)), args := #[(Operand.tmp 68), (Operand.tmp 72), (Operand.tmp 73), (Operand.tmp 74)], argTypes := #[45, 22, 22, 22] }), some (67, false)⟩,
      ⟨some 76, (Op.unOp UnOp.not 4 (Operand.tmp 75)), some (67, false)⟩,
      ⟨some 77, (Op.pick (Operand.tmp 67) (Operand.const (Value.bool true)) (Operand.tmp 76)), none⟩,
      ⟨some 78, (Op.move (Operand.tmp 77)), none⟩,
      ⟨some 79, (Op.move (Operand.tmp 6)), some (78, false)⟩,
      ⟨some 80, (Op.fieldAddr 40 (Operand.tmp 2) 0), some (78, false)⟩,
      ⟨some 81, (Op.load 22 (Operand.tmp 80)), some (78, false)⟩,
      ⟨some 82, (Op.move (Operand.tmp 3)), some (78, false)⟩,
      ⟨some 83, (Op.move (Operand.tmp 4)), some (78, false)⟩,
      ⟨some 84, (Op.buildSlice 22 1 #[(0, (Operand.const (Value.int IntKind.i64 (-1))))]), some (78, false)⟩,
      ⟨some 85, (Op.call { callee := (Callee.builtin Builtin.append), args := #[(Operand.tmp 83), (Operand.tmp 84)], argTypes := #[22, 22] }), some (78, false)⟩,
      ⟨some 86, (Op.call { callee := (Callee.value (Operand.func 35)), args := #[(Operand.tmp 79), (Operand.tmp 81), (Operand.tmp 82), (Operand.tmp 85)], argTypes := #[45, 22, 22, 22] }), some (78, false)⟩,
      ⟨some 87, (Op.unOp UnOp.not 4 (Operand.tmp 86)), some (78, false)⟩,
      ⟨some 88, (Op.pick (Operand.tmp 78) (Operand.const (Value.bool true)) (Operand.tmp 87)), none⟩] [(23, 20), (23, 21), (33, 31), (43, 47), (43, 48)])
    (.cond (Operand.tmp 88)
      (.seq (.reg false [⟨some 0, (Op.assign (Operand.const (Value.bool false))), none⟩])
      .ret)
      .skip))
    (.seq (.reg false [⟨some 89, (Op.move (Operand.tmp 6)), none⟩,
      ⟨some 90, (Op.call { callee := (Callee.builtin Builtin.len), args := #[(Operand.tmp 89)], argTypes := #[45] }), none⟩,
      ⟨some 91, (Op.move (Operand.const (Value.int IntKind.i64 0))), none⟩])
    (.block 4 (.loop [1, 2, 3, 4, 6, 90, 91] false
      (.seq (.reg false [⟨some 92, (Op.binOp BinOp.lss 3 (Operand.tmp 91) (Operand.tmp 90) 3), none⟩])
      (.seq (.cond (Operand.tmp 92)
        .skip
        (.exit 4))
      (.seq (.block 5 (.seq (.reg false [⟨some 93, (Op.move (Operand.tmp 91)), none⟩,
        ⟨some 8, (Op.assign (Operand.tmp 93)), none⟩])
      (.seq (.reg false [⟨some 94, (Op.move (Operand.tmp 6)), none⟩,
        ⟨some 95, (Op.move (Operand.tmp 8)), none⟩,
        ⟨some 96, (Op.indexAddr 45 (Operand.tmp 94) (Operand.tmp 95)), none⟩,
        ⟨some 97, (Op.fieldAddr 40 (Operand.tmp 96) 1), none⟩,
        ⟨some 98, (Op.load 38 (Operand.tmp 97)), none⟩,
        ⟨some 99, (Op.call { callee := (Callee.builtin Builtin.len), args := #[(Operand.tmp 98)], argTypes := #[38] }), none⟩,
        ⟨some 100, (Op.binOp BinOp.gtr 3 (Operand.tmp 99) (Operand.const (Value.int IntKind.i64 0)) 3), none⟩])
      (.cond (Operand.tmp 100)
        (.seq (.reg false [⟨some 101, (Op.buildSlice 45 0 #[]), none⟩,
          ⟨some 102, (Op.move (Operand.tmp 6)), none⟩,
          ⟨some 103, (Op.call { callee := (Callee.builtin Builtin.append), args := #[(Operand.tmp 101), (Operand.tmp 102)], argTypes := #[45, 45] }), none⟩,
          ⟨some 9, (Op.assign (Operand.tmp 103)), none⟩])
        (.seq (.drw false [⟨some 104, (Op.move (Operand.tmp 9)), none⟩,
          ⟨some 105, (Op.move (Operand.tmp 8)), none⟩,
          ⟨some 106, (Op.move (Operand.tmp 6)), none⟩,
          ⟨some 107, (Op.move (Operand.tmp 8)), none⟩,
          ⟨some 108, (Op.indexAddr 45 (Operand.tmp 106) (Operand.tmp 107)), none⟩,
          ⟨some 109, (Op.fieldAddr 40 (Operand.tmp 108) 0), none⟩,
          ⟨some 110, (Op.load 22 (Operand.tmp 109)), none⟩,
          ⟨some 111, (Op.buildSlice 38 0 #[]), none⟩,
          ⟨some 112, (Op.move (Operand.tmp 6)), none⟩,
          ⟨some 113, (Op.move (Operand.tmp 8)), none⟩,
          ⟨some 114, (Op.indexAddr 45 (Operand.tmp 112) (Operand.tmp 113)), none⟩,
          ⟨some 115, (Op.fieldAddr 40 (Operand.tmp 114) 1), none⟩,
          ⟨some 116, (Op.load 38 (Operand.tmp 115)), none⟩,
          ⟨some 117, (Op.call { callee := (Callee.builtin Builtin.append), args := #[(Operand.tmp 111), (Operand.tmp 116)], argTypes := #[38, 38] }), none⟩,
          ⟨some 118, (Op.build 40 #[(0, (Operand.tmp 110)), (1, (Operand.tmp 117))]), none⟩,
          ⟨some 119, (Op.indexAddr 45 (Operand.tmp 104) (Operand.tmp 105)), none⟩,
          ⟨none, (Op.store 40 (Operand.tmp 119) (Operand.tmp 118)), none⟩] [(6, 8), (6, 14), (12, 7)])
        (.seq (.reg false [⟨some 120, (Op.move (Operand.tmp 9)), none⟩,
          ⟨some 121, (Op.move (Operand.tmp 8)), none⟩,
          ⟨some 122, (Op.indexAddr 45 (Operand.tmp 120) (Operand.tmp 121)), none⟩,
          ⟨some 123, (Op.fieldAddr 40 (Operand.tmp 122) 1), none⟩,
          ⟨some 124, (Op.load 38 (Operand.tmp 123)), none⟩,
          ⟨some 125, (Op.indexAddr 38 (Operand.tmp 124) (Operand.const (Value.int IntKind.i64 0))), none⟩,
          ⟨some 126, (Op.load 2 (Operand.tmp 125)), none⟩,
          ⟨some 127, (Op.binOp BinOp.add 2 (Operand.tmp 126) (Operand.const (Value.int IntKind.i64 1)) 2), none⟩,
          ⟨some 128, (Op.indexAddr 38 (Operand.tmp 124) (Operand.const (Value.int IntKind.i64 0))), none⟩,
          ⟨none, (Op.store 2 (Operand.tmp 128) (Operand.tmp 127)), none⟩])
        (.seq (.reg false [⟨some 129, (Op.move (Operand.tmp 9)), none⟩,
          ⟨some 130, (Op.fieldAddr 40 (Operand.tmp 2) 0), none⟩,
          ⟨some 131, (Op.load 22 (Operand.tmp 130)), none⟩,
          ⟨some 132, (Op.move (Operand.tmp 3)), none⟩,
          ⟨some 133, (Op.move (Operand.tmp 4)), none⟩,
          ⟨some 134, (Op.call { callee := (Callee.value (Operand.func 35)), args := #[(Operand.tmp 129), (Operand.tmp 131), (Operand.tmp 132), (Operand.tmp 133)], argTypes := #[45, 22, 22, 22] }), none⟩,
          ⟨some 135, (Op.unOp UnOp.not 4 (Operand.tmp 134)), none⟩])
        (.cond (Operand.tmp 135)
          (.seq (.reg false [⟨some 0, (Op.assign (Operand.const (Value.bool false))), none⟩])
          .ret)
          .skip)))))
        .skip))))
      (.reg false [⟨some 136, (Op.binOp BinOp.add 3 (Operand.tmp 91) (Operand.const (Value.int IntKind.i64 1)) 3), none⟩,
        ⟨some 91, (Op.move (Operand.tmp 136)), none⟩]))))))))))))
    (.reg false [⟨some 12, (Op.move (Operand.tmp 1)), none⟩,
      ⟨some 13, (Op.binOp BinOp.add 3 (Operand.tmp 12) (Operand.const (Value.int IntKind.i64 1)) 3), none⟩,
      ⟨some 1, (Op.assign (Operand.tmp 13)), none⟩]))))))
  (.seq (.reg false [⟨some 137, (Op.buildSlice 22 1 #[(0, (Operand.const (Value.int IntKind.i64 2)))]), none⟩,
    ⟨some 138, (Op.build 40 #[(0, (Operand.tmp 137))]), none⟩,
    ⟨some 139, (Op.buildSlice 22 1 #[(0, (Operand.const (Value.int IntKind.i64 (-1))))]), none⟩,
    ⟨some 140, (Op.call { callee := (Callee.value (Operand.func 33)), args := #[(Operand.tmp 138), (Operand.const (Value.slice none 0 0)), (Operand.tmp 139), (Operand.const (Value.int IntKind.i64 0))], argTypes := #[40, 22, 22, 3] }), none⟩,
    ⟨some 141, (Op.move (Operand.tmp 140)), none⟩,
    ⟨some 142, (Op.buildSlice 22 1 #[(0, (Operand.const (Value.int IntKind.i64 0)))]), some (141, true)⟩,
    ⟨some 143, (Op.call { callee := (Callee.value (Operand.func 35)), args := #[(Operand.const (Value.slice none 0 0)), (Operand.const (Value.slice none 0 0)), (Operand.tmp 142), (Operand.const (Value.slice none 0 0))], argTypes := #[45, 22, 22, 22] }), some (141, true)⟩,
    ⟨some 144, (Op.pick (Operand.tmp 141) (Operand.tmp 143) (Operand.const (Value.bool false))), none⟩,
    ⟨some 145, (Op.move (Operand.tmp 144)), none⟩,
    ⟨some 146, (Op.call { callee := (Callee.value (Operand.func 36)), args := #[], argTypes := #[] }), some (145, true)⟩,
    ⟨some 147, (Op.pick (Operand.tmp 145) (Operand.tmp 146) (Operand.const (Value.bool false))), none⟩,
    ⟨some 0, (Op.assign (Operand.tmp 147)), none⟩])
  .ret)))
noncomputable def b8 : Code := Try.f8.body.getD .skip
theorem hb8 : Try.f8.body = some b8 := by kernel_rfl
theorem sh8 : shortC A8 b8 = c8 := by kernel_rfl
def rs8 : List ResultVar := [(ResultVar.tmp 0)]
theorem hr8 : Try.f8.results.toList = rs8 := by kernel_rfl
/- Walks: SplitNumbers. -/
theorem tape_in (i : Int) : In64 (tapeL i 90) := by
  intro j hj
  rw [tapeL_len] at hj
  have : nth (tapeL i 90) j = tapeAt i j := by simp [nth, tapeL, List.getD_eq_getElem?_getD, hj]
  rw [this]
  unfold tapeAt
  generalize w _ = a
  have h1 := Int.tmod_lt_of_pos a (show (0 : Int) < 211 by omega)
  have h2 := Int.lt_tmod_of_pos a (b := 211) (by omega)
  omega
def F8 (args : List AV) (H : Hp) : Option AV := match args with
  | [] => some (.bool true)
  | _ => none
set_option maxHeartbeats 8000000 in
theorem snd8 : Sound Try.prog 8 (FSem.pure F8).run := by
  refine sound_of hT (EOK_cons snd31 (EOK_cons snd32 (EOK_cons snd33 (EOK_cons snd34 (EOK_cons snd35 (EOK_cons snd36 (EOK_nil _))))))) mixed A8 Try.func8 hb8 (by kernel_rfl) (by kernel_rfl) (by kernel_rfl) (by kernel_rfl) sh8 0 (by kernel_rfl) rs8 hr8 ?_
  intro args H r H' hw h
  obtain ⟨rfl, hv⟩ := pureAt h
  clear h
  unfold F8 at hv
  split at hv
  rotate_left
  · cases hv
  cases hv
  have hx45 := @xdo_slice45
  have p36 : ∀ Hx, F36 [] Hx = some (.bool true) := fun _ => rfl
  refine ⟨rfl, go ?_⟩
  unfold c8
  simp only [argSl]
  repeat' (first | apply goSeq | apply goReg | apply goSeqN | apply goSeqR | apply goSkip | apply goRet | apply goNil | apply goBlock | apply goExit | apply goBlkN | apply goBlkR | apply goBlkE | apply goSeqE | apply goLoopR | apply goLoopE | refine xOp ?_ | refine xOp0 ?_ | refine xYes ?_ | refine xNo ?_ | refine xNoU ?_ | refine xIfT ?_ | refine xIfF ?_ | refine xIf ?_ ?_ | refine xSplit ?_ ?_ | refine xIfQ ?_ ?_ | refine xSplitQ ?_ ?_ | refine xBlkX ?_ | intro _)
  refine goLoop (fun m s1 H1 => Ext H' H1 ∧ ∃ i : Nat, m = 100 - i ∧ i ≤ 100 ∧ get s1 1 = .int .i64 i) 100 ⟨Ext.refl hw, 0, rfl, by omega, rfl⟩ ?_
  rintro m s1 H1 ⟨hx1, i, hm, hi, g1⟩
  simp only [cut_cons, cut_nil, g1]
  clear g1
  have hwi : w ((i : Int) + 1) = ((i + 1 : Nat) : Int) := w_id (by omega)
  by_cases hi1 : i < 100
  rotate_left
  · -- the end
    have hi2 : ¬ (i : Int) < 100 := by omega
    refine zIn hx1.wf fun Q hQ => ?_
    repeat' (first | apply zSeq | apply zReg | apply zSeqN | apply zSeqR | apply zSkip | apply zRet | apply zNil | apply zBlock | apply zExit | apply zBlkN | apply zBlkR | apply zBlkE | apply zSeqE | apply zLoopR | apply zLoopE | refine yYes' ?_ | refine yNo' ?_ | refine yNoU' ?_ | refine yLd' ?_ | refine yLdI' ?_ | refine yStS' ?_ | refine yStF' ?_ | refine ySt' ?_ | refine yBS' fun _ _ => ?_ | refine yAlloc' fun _ _ => ?_ | refine yBox' fun _ _ => ?_ | refine yOp' ?_ | refine yIfT ?_ | refine yIfF ?_ | refine yIf ?_ ?_ | refine ySplit' ?_ ?_ | refine yIfQ ?_ ?_ | refine ySplitQ' ?_ ?_ | refine yBlkX ?_ | intro _)
    refine zOut fun H2 hS2 => hQ _ _ _ (goLoopE (goBlkE (goSeqN (zIn hS2.fm.wf fun Q2 hQ2 => ?_))))
    repeat' (first | apply zSeq | apply zReg | apply zSeqN | apply zSeqR | apply zSkip | apply zRet | apply zNil | apply zBlock | apply zExit | apply zBlkN | apply zBlkR | apply zBlkE | apply zSeqE | apply zLoopR | apply zLoopE | refine yYes' ?_ | refine yNo' ?_ | refine yNoU' ?_ | refine yLd' ?_ | refine yLdI' ?_ | refine yStS' ?_ | refine yStF' ?_ | refine ySt' ?_ | refine yBS' fun _ _ => ?_ | refine yAlloc' fun _ _ => ?_ | refine yBox' fun _ _ => ?_ | refine yOp' ?_ | refine yIfT ?_ | refine yIfF ?_ | refine yIf ?_ ?_ | refine ySplit' ?_ ?_ | refine yIfQ ?_ ?_ | refine ySplitQ' ?_ ?_ | refine yBlkX ?_ | intro _)
    refine zPure' (F := F33) rfl rfl rfl (fun Hx hS hF => F33_of (tens_of (hS.ints 1 rfl (numsT_F (l := [2]) (by simp))) rfl) rfl (hS.ints 0 rfl (numsT_F (l := [-1]) (by simp))) 0) ?_
    repeat' (first | apply zSeq | apply zReg | apply zSeqN | apply zSeqR | apply zSkip | apply zRet | apply zNil | apply zBlock | apply zExit | apply zBlkN | apply zBlkR | apply zBlkE | apply zSeqE | apply zLoopR | apply zLoopE | refine yYes' ?_ | refine yNo' ?_ | refine yNoU' ?_ | refine yLd' ?_ | refine yLdI' ?_ | refine yStS' ?_ | refine yStF' ?_ | refine ySt' ?_ | refine yBS' fun _ _ => ?_ | refine yAlloc' fun _ _ => ?_ | refine yBox' fun _ _ => ?_ | refine yOp' ?_ | refine yIfT ?_ | refine yIfF ?_ | refine yIf ?_ ?_ | refine ySplit' ?_ ?_ | refine yIfQ ?_ ?_ | refine ySplitQ' ?_ ?_ | refine yBlkX ?_ | intro _)
    refine zPure' (F := F35) rfl rfl rfl (fun Hx hS hF => F35_of rfl rfl (hS.ints 0 rfl (numsT_F (l := [0]) (by simp))) rfl) ?_
    repeat' (first | apply zSeq | apply zReg | apply zSeqN | apply zSeqR | apply zSkip | apply zRet | apply zNil | apply zBlock | apply zExit | apply zBlkN | apply zBlkR | apply zBlkE | apply zSeqE | apply zLoopR | apply zLoopE | refine yYes' ?_ | refine yNo' ?_ | refine yNoU' ?_ | refine yLd' ?_ | refine yLdI' ?_ | refine yStS' ?_ | refine yStF' ?_ | refine ySt' ?_ | refine yBS' fun _ _ => ?_ | refine yAlloc' fun _ _ => ?_ | refine yBox' fun _ _ => ?_ | refine yOp' ?_ | refine yIfT ?_ | refine yIfF ?_ | refine yIf ?_ ?_ | refine ySplit' ?_ ?_ | refine yIfQ ?_ ?_ | refine ySplitQ' ?_ ?_ | refine yBlkX ?_ | intro _)
    exact zOut fun H3 hS3 => hQ2 _ _ _ (goEnd hw (hx1.trans ((hS2.ext rfl).trans (hS3.ext rfl))).pre (by simp) (by simp [rs8]; exact rfl) rfl rfl)
  have hi2 : (i : Int) < 100 := by omega
  have hr := tape_in i
  have g := made_good hr
  have e31 : ∀ tv Hx, ints Hx tv = some (tapeL i 90) → F31 [tv] Hx = some (mk (madeTr (tapeL i 90)) Hx) := fun tv Hx h => F31_at h hr
  have e32 : ∀ Hx, F32 [.int .i64 i] Hx = some (mk (trS (tapeL i 90)) Hx) := fun _ => rfl
  have hll := tapeL_len i 90
  have hm3 := (six_ok _ g.six).2.2.2
  have hmay := g.may
  have hpl := g.pl
  have hs3 := g.s3
  have hp3 : (mdP (tapeL i 90)).1.length ≤ 3 := by omega
  clear hpl
  have hdl : ((mdD (tapeL i 90)).1.length : Int) = sizeOf (mdS (tapeL i 90)).1 := by
    have := g.tok
    simp only [tOK, Bool.and_eq_true, decide_eq_true_eq] at this
    exact this.2
  have hsz4 := sizeOf_le (mdS (tapeL i 90)).1
  obtain ⟨hd1, hd2, hd3⟩ := g.dv
  unfold madeTr at e31
  clear g hr
  generalize tapeL i 90 = l at *
  generalize (mdS l).1 = S at *
  generalize (mdD l).1 = D at *
  generalize mdM l = M at *
  generalize (mdP l).1 = P at *
  have hn : ∃ n : Nat, devs M = n ∧ 0 < n ∧ n ≤ 8 := ⟨(devs M).toNat, by omega, by omega, by omega⟩
  obtain ⟨n, hn, hn0, hn8⟩ := hn
  refine zIn hx1.wf fun Q hQ => ?_
  repeat' (first | apply zSeq | apply zReg | apply zSeqN | apply zSeqR | apply zSkip | apply zRet | apply zNil | apply zBlock | apply zExit | apply zBlkN | apply zBlkR | apply zBlkE | apply zSeqE | apply zLoopR | apply zLoopE | refine yYes' ?_ | refine yNo' ?_ | refine yNoU' ?_ | refine yLd' ?_ | refine yLdI' ?_ | refine yStS' ?_ | refine yStF' ?_ | refine ySt' ?_ | refine yBS' fun _ _ => ?_ | refine yAlloc' fun _ _ => ?_ | refine yBox' fun _ _ => ?_ | refine yOp' ?_ | refine yIfT ?_ | refine yIfF ?_ | refine yIf ?_ ?_ | refine ySplit' ?_ ?_ | refine yIfQ ?_ ?_ | refine ySplitQ' ?_ ?_ | refine yBlkX ?_ | intro _)
  refine zCall' (F := F32) (args := [.int .i64 i]) (t := trS l) rfl rfl rfl (fun Hx hS hF => e32 Hx) fun tv => ?_
  refine zCall' (F := F31) (args := [tv]) (t := .tup [.agg [trC S, trS D], trF M, trF P]) rfl rfl rfl (fun Hx hS hF => e31 tv Hx (hS.ints 0 rfl (numsT_S (by omega)))) fun v => ?_
  refine zTup3' fun t1 mv pv h => ?_
  subst h
  refine zAgg2' fun sx dy h => ?_
  subst h
  refine zNum' .here (numsT_C (by omega)) fun o1 _ _ => ?_
  refine zNum' (.there .here) (numsT_S (by omega)) fun o2 _ _ => ?_
  repeat' (first | apply zSeq | apply zReg | apply zSeqN | apply zSeqR | apply zSkip | apply zRet | apply zNil | apply zBlock | apply zExit | apply zBlkN | apply zBlkR | apply zBlkE | apply zSeqE | apply zLoopR | apply zLoopE | refine yYes' ?_ | refine yNo' ?_ | refine yNoU' ?_ | refine yLd' ?_ | refine yLdI' ?_ | refine yStS' ?_ | refine yStF' ?_ | refine ySt' ?_ | refine yBS' fun _ _ => ?_ | refine yAlloc' fun _ _ => ?_ | refine yBox' fun _ _ => ?_ | refine yOp' ?_ | refine yIfT ?_ | refine yIfF ?_ | refine yIf ?_ ?_ | refine ySplit' ?_ ?_ | refine yIfQ ?_ ?_ | refine ySplitQ' ?_ ?_ | refine yBlkX ?_ | intro _)
  rename_i b2 v2
  refine zLoop (fun m s1 LL => ∃ d : Int, m = (9 - d).toNat ∧ -1 ≤ d ∧ d ≤ 9 ∧ get s1 1 = .int .i64 i ∧ get s1 2 = .ptr b2 v2 0 ∧ get s1 3 = mv ∧ get s1 4 = pv ∧ get s1 5 = .int .i64 d ∧ LL = [(.ptr b2 v2 0, .bx [.at sx, .at dy]), (sx, trC S), (dy, trS D), (mv, trF M), (pv, trF P), (tv, trS l)]) 10 ⟨-1, rfl, by omega, by omega, rfl, rfl, rfl, rfl, rfl, rfl⟩ ?_
  rintro m2 s2 LL ⟨d, hm2, hda, hdb, g1, g2, g3, g4, g5, rfl⟩
  simp only [cut_cons, cut_nil, g1, g2, g3, g4, g5]
  clear g1 g2 g3 g4 g5
  have hwd : w (d + 1) = d + 1 := w_id (by omega)
  by_cases hd9 : d < 9
  · repeat' (first | apply zSeq | apply zReg | apply zSeqN | apply zSeqR | apply zSkip | apply zRet | apply zNil | apply zBlock | apply zExit | apply zBlkN | apply zBlkR | apply zBlkE | apply zSeqE | apply zLoopR | apply zLoopE | refine yYes' ?_ | refine yNo' ?_ | refine yNoU' ?_ | refine yLd' ?_ | refine yLdI' ?_ | refine yStS' ?_ | refine yStF' ?_ | refine ySt' ?_ | refine yBS' fun _ _ => ?_ | refine yAlloc' fun _ _ => ?_ | refine yBox' fun _ _ => ?_ | refine yOp' ?_ | refine yIfT ?_ | refine yIfF ?_ | refine yIf ?_ ?_ | refine ySplit' ?_ ?_ | refine yIfQ ?_ ?_ | refine ySplitQ' ?_ ?_ | refine yBlkX ?_ | intro _)
    refine zPure' (F := F33) rfl rfl rfl (fun Hx hS hF => F33_of (tens_of (hS.ints 1 rfl (numsT_C (by omega))) (hS.ints 2 rfl (numsT_S (by omega)))) (hS.ints 3 rfl (numsT_F (by omega))) (hS.ints 4 rfl (numsT_F (by omega))) d) ?_
    repeat' (first | apply zSeq | apply zReg | apply zSeqN | apply zSeqR | apply zSkip | apply zRet | apply zNil | apply zBlock | apply zExit | apply zBlkN | apply zBlkR | apply zBlkE | apply zSeqE | apply zLoopR | apply zLoopE | refine yYes' ?_ | refine yNo' ?_ | refine yNoU' ?_ | refine yLd' ?_ | refine yLdI' ?_ | refine yStS' ?_ | refine yStF' ?_ | refine ySt' ?_ | refine yBS' fun _ _ => ?_ | refine yAlloc' fun _ _ => ?_ | refine yBox' fun _ _ => ?_ | refine yOp' ?_ | refine yIfT ?_ | refine yIfF ?_ | refine yIf ?_ ?_ | refine ySplit' ?_ ?_ | refine yIfQ ?_ ?_ | refine ySplitQ' ?_ ?_ | refine yBlkX ?_ | intro _)
    exact zLoopN ((9 - (d+1)).toNat) (by omega) ⟨d + 1, rfl, by omega, by omega, rfl, rfl, rfl, rfl, rfl, rfl⟩
  clear hwd
  repeat' (first | apply zSeq | apply zReg | apply zSeqN | apply zSeqR | apply zSkip | apply zRet | apply zNil | apply zBlock | apply zExit | apply zBlkN | apply zBlkR | apply zBlkE | apply zSeqE | apply zLoopR | apply zLoopE | refine yYes' ?_ | refine yNo' ?_ | refine yNoU' ?_ | refine yLd' ?_ | refine yLdI' ?_ | refine yStS' ?_ | refine yStF' ?_ | refine ySt' ?_ | refine yBS' fun _ _ => ?_ | refine yAlloc' fun _ _ => ?_ | refine yBox' fun _ _ => ?_ | refine yOp' ?_ | refine yIfT ?_ | refine yIfF ?_ | refine yIf ?_ ?_ | refine ySplit' ?_ ?_ | refine yIfQ ?_ ?_ | refine ySplitQ' ?_ ?_ | refine yBlkX ?_ | intro _)
  refine zCall' (F := F34) (args := [.agg [sx, dy], mv, pv]) (t := .tup [trTs (partsR (S, D) M P n), .at (.int .i64 0)]) rfl rfl rfl (fun Hx hS hF => ?_) fun v => ?_
  · have a1 : ints Hx sx = some S := hS.ints 1 rfl (numsT_C (by omega))
    have a2 : ints Hx dy = some D := hS.ints 2 rfl (numsT_S (by omega))
    have a3 : ints Hx mv = some M := hS.ints 3 rfl (numsT_F (by omega))
    have a4 : ints Hx pv = some P := hS.ints 4 rfl (numsT_F (by omega))
    show (tens Hx _).bind _ = _
    rw [tens_of a1 a2, Option.bind_some, a3, Option.bind_some, a4, Option.map_some]
    simp [allR, hmay, hn]
  refine zTup2' fun u22 ev h => ?_
  subst h
  refine zAt' (.there .here) fun h => ?_
  subst h
  repeat' (first | apply zSeq | apply zReg | apply zSeqN | apply zSeqR | apply zSkip | apply zRet | apply zNil | apply zBlock | apply zExit | apply zBlkN | apply zBlkR | apply zBlkE | apply zSeqE | apply zLoopR | apply zLoopE | refine yYes' ?_ | refine yNo' ?_ | refine yNoU' ?_ | refine yLd' ?_ | refine yLdI' ?_ | refine yStS' ?_ | refine yStF' ?_ | refine ySt' ?_ | refine yBS' fun _ _ => ?_ | refine yAlloc' fun _ _ => ?_ | refine yBox' fun _ _ => ?_ | refine yOp' ?_ | refine yIfT ?_ | refine yIfF ?_ | refine yIf ?_ ?_ | refine ySplit' ?_ ?_ | refine yIfQ ?_ ?_ | refine ySplitQ' ?_ ?_ | refine yBlkX ?_ | intro _)
  refine zDrwY (fun _ => rfl) fun Ha hSa kk hkk => ?_
  refine rStart ?_
  have hx2 : Ext H1 Ha := hSa.ext rfl
  have a1 : ints Ha sx = some S := hSa.ints 2 rfl (numsT_C (by omega))
  have a2 : ints Ha dy = some D := hSa.ints 3 rfl (numsT_S (by omega))
  have a3 : ints Ha mv = some M := hSa.ints 4 rfl (numsT_F (by omega))
  have a4 : ints Ha pv = some P := hSa.ints 5 rfl (numsT_F (by omega))
  have hAL : (allL (S, D) M P).length = n := by rw [allL_len]; omega
  have hM : tensL Ha u22 = some (allL (S, D) M P) := hSa.tsL 0 rfl (okT_TsR 0 _ _ _ _) (by rw [partsR_len, allL_len]; omega) (by rw [allL_len]; omega) (parts_all hmay fun j hj => partsR_at _ _ _ _ j (by omega))
  have hu : trTs (partsR (S, D) M P n) = .sl n 2 false (cellsT (partsR (S, D) M P n)) := by unfold trTs trG; rw [partsR_len, if_neg (by omega)]
  obtain ⟨bu, vu, cu, rfl, hku, hvu, hcu⟩ := hSa.own (i := 0) (n := n) (es := 2) (f := false) (cs := cellsT (partsR (S, D) M P n)) (by rw [← hu]; rfl)
  rw [cellsT_len, partsR_len] at hcu
  obtain ⟨bp, vp, cp, rfl, hkp, _, hcp⟩ := hSa.own (i := 5) (n := P.length) (es := 1) (f := true) (cs := trI P) rfl
  have hcpl : cp.length = P.length := by rw [hcp]; simp [trI]
  obtain ⟨hcp2, _⟩ := full_cells hkp hcpl a4
  have r22 : aload T 22 (.ptr b2 v2 0) Ha = some sx := hSa.ld (by repeat (first | exact Fd.here rfl | apply Fd.there)) rfl (by simp [ldT, lvs]) rfl
  have r40 : aload T 40 (.ptr b2 v2 0) Ha = some (.agg [sx, dy]) := hSa.ld (by repeat (first | exact Fd.here rfl | apply Fd.there)) rfl (by simp [ldT, lvs]) rfl
  clear hSa hu hcp
  have tm := tens_of a1 a2
  have cM := tensL_own hku hcu hM
  obtain ⟨v5, hsl, hv5⟩ := ts_tail hM (by omega)
  have j1 : F35 [.sl bu vu 0 n 2 false, sx, mv, .sl bp vp 0 P.length 1 true] Ha = some (.bool true) := F35_of hM a1 a3 a4
  have j2 : F35 [v5, sx, mv, .sl bp vp 0 P.length 1 true] Ha = some (.bool true) := F35_of hv5 a1 a3 a4
  repeat (first | refine rOp ?_ | refine rYes ?_)
  obtain ⟨Hb, hHb⟩ : ∃ Hb, Hb = Ha.new [sx, dy] := ⟨_, rfl⟩
  have sb : slCells Hb (.sl Ha.bs.length Ha.c 0 1 2 true) = some (1, [sx, dy]) := by rw [hHb]; simp [slCells, new_at]
  have kb : Hb.at bu vu = some ⟨vu, cu, true, true⟩ := by rw [hHb]; exact at_new hku _
  have wb : PreW Ha Hb := by rw [hHb]; exact PreW.new _ _
  have xb : Ext H1 Hb := by rw [hHb]; exact hx2.new _
  have lb := aload_w wb r22
  refine rYesE (q := some (.sl Ha.bs.length Ha.c 0 1 2 true, Hb)) (by simp [*]) (by rw [hHb]; exact bs45 rfl o1 o2) rfl ?_
  clear hHb
  obtain ⟨Hc, hHc⟩ : ∃ Hc, Hc = Hb.shr bu vu cu (cu ++ [sx, dy]) := ⟨_, rfl⟩
  have wbc : PreW Hb Hc := by rw [hHc]; exact PreW.shr kb _
  have wc := wb.trans wbc
  have xc : Ext H1 Hc := by rw [hHc]; exact shr_ext hx1.wf xb hvu kb
  have kc : Hc.at Hb.bs.length Hb.c = some ⟨Hb.c, cu ++ [sx, dy], true, false⟩ := by rw [hHc]; exact shr_at _ _ _ _ _
  have lc := aload_w wc r22
  have j3 : F35 [.sl Hb.bs.length Hb.c 0 (n + 1) 2 false, sx, mv, .sl bp vp 0 P.length 1 true] Hc = some (.bool true) := F35_of (tensL_of kc (by simp [hcu]; omega) (by omega) (tensG_snoc (tens_w wc tm) cu (tensG_w wc _ cM))) (ints_w wc a1) (ints_w wc a3) (ints_w wc a4)
  refine rYesE (q := some (.sl Hb.bs.length Hb.c 0 (n + 1) 2 false, Hc)) (by simp [*]) (by rw [xdo_append, hHc]; exact aapp_shr D45 T40 rfl (by decide) kb hcu sb rfl (by decide) (by simp [maxBytes]; omega)) rfl ?_
  clear hHc sb kb
  repeat (first | refine rOp ?_ | refine rYes ?_)
  obtain ⟨Hd, hHd⟩ : ∃ Hd, Hd = Hc.new [.int .i64 1] := ⟨_, rfl⟩
  have kd : Hd.at Hc.bs.length Hc.c = some ⟨Hc.c, [.int .i64 1], true, true⟩ := by rw [hHd]; exact new_at _ _
  have wd : PreW Ha Hd := wc.trans (by rw [hHd]; exact PreW.new _ _)
  have xd : Ext H1 Hd := by rw [hHd]; exact xc.new _
  have ld := aload_w wd r22
  refine rYesE (q := some (.sl Hc.bs.length Hc.c 0 1 1 true, Hd)) (by simp [*]) (by rw [hHd]; exact bs22 rfl) rfl ?_
  clear hHd
  repeat (first | refine rOp ?_ | refine rYes ?_)
  obtain ⟨v72, He, e72, hHe, i72⟩ := aapp_full (sh := true) (v := .sl Hc.bs.length Hc.c 0 1 1 true) (l := [1]) rfl kd rfl rfl (ints_w wd a1) (by simp; omega)
  have we : PreW Ha He := wd.trans (by rcases hHe with rfl | ⟨cs, rfl⟩; exact PreW.refl _; exact PreW.new _ _)
  have xe : Ext H1 He := by rcases hHe with rfl | ⟨cs, rfl⟩; exact xd; exact xd.new _
  have le := aload_w we r22
  have j4 : F35 [.sl bu vu 0 n 2 false, v72, mv, .sl bp vp 0 P.length 1 true] He = some (.bool true) := F35_of (tensL_w we hM) i72 (ints_w we a3) (ints_w we a4)
  refine rYesE (q := some (v72, He)) (by simp [*]) (by rw [xdo_append]; exact e72) rfl ?_
  clear hHe e72
  repeat (first | refine rOp ?_ | refine rYes ?_)
  obtain ⟨Hf, hHf⟩ : ∃ Hf, Hf = He.new [.int .i64 (-1)] := ⟨_, rfl⟩
  have kf : Hf.at He.bs.length He.c = some ⟨He.c, [.int .i64 (-1)], true, true⟩ := by rw [hHf]; exact new_at _ _
  have wf : PreW Ha Hf := we.trans (by rw [hHf]; exact PreW.new _ _)
  have xf : Ext H1 Hf := by rw [hHf]; exact xe.new _
  have lf := aload_w wf r22
  have if84 : ints Hf (.sl He.bs.length He.c 0 1 1 true) = some [-1] := by simp only [ints, kf]; simp; exact toInts_map [-1]
  refine rYesE (q := some (.sl He.bs.length He.c 0 1 1 true, Hf)) (by simp [*]) (by rw [hHf]; exact bs22 rfl) rfl ?_
  clear hHf
  obtain ⟨kp, hkp1, hkp2⟩ := wf _ _ _ hkp
  obtain ⟨v85, Hg, e85, hHg, i85⟩ := aapp_full (sh := true) (v := .sl bp vp 0 P.length 1 true) (l := P) rfl hkp1 (hkp2.trans hcp2) rfl if84 (by simp; omega)
  have wg : PreW Ha Hg := wf.trans (by rcases hHg with rfl | ⟨cs, rfl⟩; exact PreW.refl _; exact PreW.new _ _)
  have xg : Ext H1 Hg := by rcases hHg with rfl | ⟨cs, rfl⟩; exact xf; exact xf.new _
  have lg := aload_w wg r22
  have j5 : F35 [.sl bu vu 0 n 2 false, sx, mv, v85] Hg = some (.bool true) := F35_of (tensL_w wg hM) (ints_w wg a1) (ints_w wg a3) i85
  refine rYesE (q := some (v85, Hg)) (by simp [*]) (by rw [xdo_append]; exact e85) rfl ?_
  clear hHg e85 kf
  repeat (first | refine rOp ?_ | refine rYes ?_)
  refine rNil ?_ (hkk _ _ xg.wf ?_)
  · refine again_rev (N := 52) 28 31 rfl rfl rfl rfl rfl rfl (XG_eq rfl rfl (by simp [*])) ?_
    refine again_rev (N := 52) 28 30 rfl rfl rfl rfl rfl rfl (XG_eq rfl rfl (by simp [*])) ?_
    refine again_rev (N := 52) 18 20 rfl rfl rfl rfl rfl rfl (XG_eq rfl rfl (by simp [*])) ?_
    refine again_rev (N := 52) 8 4 rfl rfl rfl rfl rfl rfl (XG_eq rfl rfl (by simp [*])) ?_
    refine again_rev (N := 52) 8 3 rfl rfl rfl rfl rfl rfl (XG_eq rfl rfl (by simp [*])) ?_
    trivial
  clear hkk j1 j2 j3 j4 j5 lb lc ld le lf lg hsl hv5 i72 i85 if84 xb xc xd xe xf wb wc wbc wd we wf kc kd hkp hkp1 hkp2
  -- each of them written into a copy
  have b1 := ints_w wg a1
  have b3 := ints_w wg a3
  have b4 := ints_w wg a4
  obtain ⟨ku, hkg, hkc⟩ := wg _ _ _ hku
  have bM := tensL_w wg hM
  have bc : slCells Hg (.sl bu vu 0 n 2 false) = some (n, cu) := by
    simp only [slCells, hkg, hkc]
    rw [if_pos (by simp [hcu]), List.drop_zero, List.take_of_length_le (by simp [hcu])]
  have cG := tensG_w wg _ cM
  have k22 : ∀ Hx, Fm ⟨Hg, []⟩ Hx → aload T 22 (.ptr b2 v2 0) Hx = some sx := fun Hx hF => aload_ext hF.pre' (aload_w wg r22)
  clear a1 a2 a3 a4 hM hku r22 r40 tm cM
  repeat' (first | apply zSeq | apply zReg | apply zSeqN | apply zSeqR | apply zSkip | apply zRet | apply zNil | apply zBlock | apply zExit | apply zBlkN | apply zBlkR | apply zBlkE | apply zSeqE | apply zLoopR | apply zLoopE | refine yYes' ?_ | refine yNo' ?_ | refine yNoU' ?_ | refine yLd' ?_ | refine yLdI' ?_ | refine yStS' ?_ | refine yStF' ?_ | refine ySt' ?_ | refine yBS' fun _ _ => ?_ | refine yAlloc' fun _ _ => ?_ | refine yBox' fun _ _ => ?_ | refine yOp' ?_ | refine yIfT ?_ | refine yIfF ?_ | refine yIf ?_ ?_ | refine ySplit' ?_ ?_ | refine yIfQ ?_ ?_ | refine ySplitQ' ?_ ?_ | refine yBlkX ?_ | intro _)
  refine zLoop (fun m s1 LL => ∃ k : Nat, m = n - k ∧ k ≤ n ∧ get s1 1 = .int .i64 i ∧ get s1 2 = .ptr b2 v2 0 ∧ get s1 3 = mv ∧ get s1 4 = .sl bp vp 0 P.length 1 true ∧ get s1 6 = .sl bu vu 0 n 2 false ∧ get s1 90 = .int .i64 n ∧ get s1 91 = .int .i64 k ∧ LL = []) n ⟨0, rfl, Nat.zero_le _, rfl, rfl, rfl, rfl, rfl, rfl, rfl, rfl⟩ ?_
  rintro m3 s3 LL ⟨k, hm3', hk, g1, g2, g3, g4, g5, g6, g7, rfl⟩
  simp only [cut_cons, cut_nil, g1, g2, g3, g4, g5, g6, g7]
  clear g1 g2 g3 g4 g5 g6 g7
  have hwk : w ((k : Int) + 1) = ((k + 1 : Nat) : Int) := w_id (by omega)
  by_cases hkn : k < n
  rotate_left
  · have hkn' : ¬ (k : Int) < n := by omega
    repeat' (first | apply zSeq | apply zReg | apply zSeqN | apply zSeqR | apply zSkip | apply zRet | apply zNil | apply zBlock | apply zExit | apply zBlkN | apply zBlkR | apply zBlkE | apply zSeqE | apply zLoopR | apply zLoopE | refine yYes' ?_ | refine yNo' ?_ | refine yNoU' ?_ | refine yLd' ?_ | refine yLdI' ?_ | refine yStS' ?_ | refine yStF' ?_ | refine ySt' ?_ | refine yBS' fun _ _ => ?_ | refine yAlloc' fun _ _ => ?_ | refine yBox' fun _ _ => ?_ | refine yOp' ?_ | refine yIfT ?_ | refine yIfF ?_ | refine yIf ?_ ?_ | refine ySplit' ?_ ?_ | refine yIfQ ?_ ?_ | refine ySplitQ' ?_ ?_ | refine yBlkX ?_ | intro _)
    exact zOut fun H2 hS2 => hQ _ _ _ (goLoopN (100 - (i + 1)) (by omega) ⟨hx1.trans (xg.trans (hS2.ext rfl)), i + 1, rfl, by omega, rfl⟩)
  have hkn' : (k : Int) < n := by omega
  have hidx : ∀ b v : Nat, aidx T 45 (.sl b v 0 n 2 false) (.int .i64 k) = some (.ptr b v (k * 2)) := fun b v => by
    rw [aidx45]; simp only [aidxS]; rw [if_pos ⟨trivial, by omega, by omega⟩]; simp
  obtain ⟨x, y, gxy, gt⟩ := (tensG_at cu cG).2 k (by omega)
  obtain ⟨_, _, e, ix, iy⟩ := tens_some gt
  cases e
  have v1 : cu[k * 2]? = some x := by
    have := congrArg (fun l => l[0]?) gxy
    simpa using this
  have v2 : cu[k * 2 + 1]? = some y := by
    have := congrArg (fun l => l[1]?) gxy
    simpa using this
  have ox := ints_one' ix
  have zy := Fz.of iy
  generalize hdat : (tth (allL (S, D) M P) k).2 = dat at *
  have hdatl : dat.length ≤ 4096 := by
    rw [← hdat, allL_at _ _ _ (by omega)]
    exact partD_len _ _ _ _
  have u22 : ∀ Hx, Fm ⟨Hg, []⟩ Hx → aload T 22 (.ptr bu vu (k * 2)) Hx = some x := fun Hx hF => by rw [ld22 (hF.pre'.at hkg), hkc]; exact v1
  have u38 : ∀ Hx, Fm ⟨Hg, []⟩ Hx → aload T 38 (.ptr bu vu (k * 2 + 1)) Hx = some y := fun Hx hF => by rw [ld38 (hF.pre'.at hkg), hkc]; exact v2
  have lyv := alenS_ints iy
  have iyv := aidxS_ints iy .i64
  simp only [← alen38, ← aidx38] at lyv iyv
  by_cases hd0 : dat = []
  · have hdn : ¬ (0 : Int) < dat.length := by rw [hd0]; simp
    repeat' (first | apply zSeq | apply zReg | apply zSeqN | apply zSeqR | apply zSkip | apply zRet | apply zNil | apply zBlock | apply zExit | apply zBlkN | apply zBlkR | apply zBlkE | apply zSeqE | apply zLoopR | apply zLoopE | refine yYes' ?_ | refine yNo' ?_ | refine yNoU' ?_ | refine yLd' ?_ | refine yLdI' ?_ | refine yStS' ?_ | refine yStF' ?_ | refine ySt' ?_ | refine yBS' fun _ _ => ?_ | refine yAlloc' fun _ _ => ?_ | refine yBox' fun _ _ => ?_ | refine yOp' ?_ | refine yIfT ?_ | refine yIfF ?_ | refine yIf ?_ ?_ | refine ySplit' ?_ ?_ | refine yIfQ ?_ ?_ | refine ySplitQ' ?_ ?_ | refine yBlkX ?_ | intro _)
    exact zLoopN (n - (k + 1)) (by omega) ⟨k + 1, rfl, by omega, rfl, rfl, rfl, rfl, rfl, rfl, rfl, rfl⟩
  have hdp : 0 < dat.length := List.length_pos_iff.2 hd0
  have hdp' : (0 : Int) < dat.length := by omega
  repeat' (first | apply zSeq | apply zReg | apply zSeqN | apply zSeqR | apply zSkip | apply zRet | apply zNil | apply zBlock | apply zExit | apply zBlkN | apply zBlkR | apply zBlkE | apply zSeqE | apply zLoopR | apply zLoopE | refine yYes' ?_ | refine yNo' ?_ | refine yNoU' ?_ | refine yLd' ?_ | refine yLdI' ?_ | refine yStS' ?_ | refine yStF' ?_ | refine ySt' ?_ | refine yBS' fun _ _ => ?_ | refine yAlloc' fun _ _ => ?_ | refine yBox' fun _ _ => ?_ | refine yOp' ?_ | refine yIfT ?_ | refine yIfF ?_ | refine yIf ?_ ?_ | refine ySplit' ?_ ?_ | refine yIfQ ?_ ?_ | refine ySplitQ' ?_ ?_ | refine yBlkX ?_ | intro _)
  refine zNew' (.sl n 2 false (cu.map .at)) cu rfl (fun Hx hS hF => ?_) fun bw vw => ?_
  · obtain ⟨b0, w0, vs0, e0, q1, _, hv0⟩ := hS.own (i := 0) rfl
    cases e0
    have e1 := slCells_ext hF.pre' bc
    rw [xdo_append]
    simp only [ev_tmp, get_cons]
    simp [aapp, D45, T40, aappend, e1, q1, hcu, show ¬ n = 0 by omega, maxBytes, Tr.hd]
    omega
  dsimp only [Tr.hd]
  refine zGL (L' := [(.sl bw vw 0 n 2 false, .sl n 2 false (cu.map .at))]) (fun H hS => hS.erase 1) ?_
  have v1e : ∀ h : k * 2 < cu.length, cu[k * 2] = x := fun h => by have := v1; rw [List.getElem?_eq_getElem h] at this; exact Option.some.inj this
  have v2e : ∀ h : k * 2 + 1 < cu.length, cu[k * 2 + 1] = y := fun h => by have := v2; rw [List.getElem?_eq_getElem h] at this; exact Option.some.inj this
  repeat' (first | apply zSeq | apply zReg | apply zSeqN | apply zSeqR | apply zSkip | apply zRet | apply zNil | apply zBlock | apply zExit | apply zBlkN | apply zBlkR | apply zBlkE | apply zSeqE | apply zLoopR | apply zLoopE | refine yYes' ?_ | refine yNo' ?_ | refine yNoU' ?_ | refine yLd' ?_ | refine yLdI' ?_ | refine yStS' ?_ | refine yStF' ?_ | refine ySt' ?_ | refine yBS' fun _ _ => ?_ | refine yAlloc' fun _ _ => ?_ | refine yBox' fun _ _ => ?_ | refine yOp' ?_ | refine yIfT ?_ | refine yIfF ?_ | refine yIf ?_ ?_ | refine ySplit' ?_ ?_ | refine yIfQ ?_ ?_ | refine ySplitQ' ?_ ?_ | refine yBlkX ?_ | intro _)
  apply zDrw
  repeat' (first | apply zSeq | apply zReg | apply zSeqN | apply zSeqR | apply zSkip | apply zRet | apply zNil | apply zBlock | apply zExit | apply zBlkN | apply zBlkR | apply zBlkE | apply zSeqE | apply zLoopR | apply zLoopE | refine yYes ?_ | refine yNo ?_ | refine yNoU ?_ | refine yLd ?_ | refine yLdI ?_ | refine yStS ?_ | refine yStF ?_ | refine ySt ?_ | refine yBS fun _ _ => ?_ | refine yAlloc fun _ _ => ?_ | refine yBox fun _ _ => ?_ | refine yOp ?_ | refine yIfT ?_ | refine yIfF ?_ | refine yIf ?_ ?_ | refine ySplit ?_ ?_ | refine yIfQ ?_ ?_ | refine ySplitQ ?_ ?_ | refine yBlkX ?_ | intro _)
  refine zClone (n := dat) rfl rfl (.fz zy) (.inr rfl) (by omega) fun dv odv => ?_
  have hbld : bld40 x dv = some (.agg [x, dv]) := bld40_one ox odv
  have hk3 : k * 2 + 2 ≤ n * 2 := by omega
  repeat' (first | apply zSeq | apply zReg | apply zSeqN | apply zSeqR | apply zSkip | apply zRet | apply zNil | apply zBlock | apply zExit | apply zBlkN | apply zBlkR | apply zBlkE | apply zSeqE | apply zLoopR | apply zLoopE | refine yYes ?_ | refine yNo ?_ | refine yNoU ?_ | refine yLd ?_ | refine yLdI ?_ | refine yStS ?_ | refine yStF ?_ | refine ySt ?_ | refine yBS fun _ _ => ?_ | refine yAlloc fun _ _ => ?_ | refine yBox fun _ _ => ?_ | refine yOp ?_ | refine yIfT ?_ | refine yIfF ?_ | refine yIf ?_ ?_ | refine ySplit ?_ ?_ | refine yIfQ ?_ ?_ | refine ySplitQ ?_ ?_ | refine yBlkX ?_ | intro _)
  dsimp only [Md.add, List.append, List.nil_append, List.cons_append]
  refine zNilT ?_ ?_
  · simp only [AgainZ, List.cons_append, List.nil_append, List.getElem?_cons_zero, List.getElem?_cons_succ, XG_none]
    exact ⟨⟨x, (fun Hx hS => by simp [u22 Hx hS.fm]), (fun Hx hS => by simp [u22 Hx hS.fm])⟩, ⟨x, (fun Hx hS => by simp [u22 Hx hS.fm]), (fun Hx hS => by simp [u22 Hx hS.fm])⟩, ⟨y, (fun Hx hS => by simp [u38 Hx hS.fm]), (fun Hx hS => by simp [u38 Hx hS.fm])⟩, trivial⟩
  have hcs2 : ((cu.map Tr.at).set (k * 2) (Tr.at x)).set (k * 2 + 1) (Tr.at dv) = ((cu.set (k * 2) x).set (k * 2 + 1) dv).map Tr.at := by simp [List.map_set]
  rw [hcs2]
  clear hcs2
  refine zMK fun Hd hSd => ?_
  have hdi := hSd.ints 0 rfl (numsT_C (l := dat) (by omega))
  have ldv := alenS_ints hdi
  have idv := aidxS_ints hdi .i64
  simp only [← alen38, ← aidx38] at ldv idv
  clear hSd hdi Hd
  have p35w : ∀ (tr : Tr) (dat2 : List Int), numsT tr = some dat2 → ∀ Hx, SL ⟨Hg, []⟩ [(dv, tr), (.sl bw vw 0 n 2 false, .sl n 2 false (((cu.set (k * 2) x).set (k * 2 + 1) dv).map Tr.at))] Hx → F35 [.sl bw vw 0 n 2 false, sx, mv, .sl bp vp 0 P.length 1 true] Hx = some (.bool true) := by
    intro tr dat2 hn2 Hx hS
    have hF := hS.fm
    obtain ⟨ws, _, w1, w2⟩ := hS.cells (i := 1) rfl rfl rfl
    rw [RXs.leafEq _ w2 rfl] at w1
    have hdv := hS.ints 0 rfl hn2
    have ht := tens_of (ints_ext hF.pre' ix) hdv
    have := tensL_put (es := false) w1 (by rw [hcu, hAL]) (tensG_ext hF.pre' cu cG) (by omega) (by omega) ht
    rw [hAL] at this
    exact F35_of this (ints_ext hF.pre' b1) (ints_ext hF.pre' b3) (ints_ext hF.pre' b4)
  obtain ⟨cs2, hcs⟩ : ∃ c, (cu.set (k * 2) x).set (k * 2 + 1) dv = c := ⟨_, rfl⟩
  rw [hcs] at p35w ⊢
  have hcl : cs2.length = n * 2 := by rw [← hcs, List.length_set, List.length_set, hcu]
  have d1 : cs2[k * 2 + 1]? = some dv := by rw [← hcs, List.getElem?_set_self (by simp; omega)]
  have d1e : ∀ h : k * 2 + 1 < cs2.length, cs2[k * 2 + 1] = dv := fun h => by have := d1; rw [List.getElem?_eq_getElem h] at this; exact Option.some.inj this
  clear hcs v1 v2 v1e v2e gxy
  rw [show trC dat = trS dat from if_neg hd0]
  repeat' (first | apply zSeq | apply zReg | apply zSeqN | apply zSeqR | apply zSkip | apply zRet | apply zNil | apply zBlock | apply zExit | apply zBlkN | apply zBlkR | apply zBlkE | apply zSeqE | apply zLoopR | apply zLoopE | refine yYes' ?_ | refine yNo' ?_ | refine yNoU' ?_ | refine yLd' ?_ | refine yLdI' ?_ | refine yStS' ?_ | refine yStF' ?_ | refine ySt' ?_ | refine yBS' fun _ _ => ?_ | refine yAlloc' fun _ _ => ?_ | refine yBox' fun _ _ => ?_ | refine yOp' ?_ | refine yIfT ?_ | refine yIfF ?_ | refine yIf ?_ ?_ | refine ySplit' ?_ ?_ | refine yIfQ ?_ ?_ | refine ySplitQ' ?_ ?_ | refine yBlkX ?_ | intro _)
  refine zPure' (F := F35) rfl rfl rfl (fun Hx hS hF => p35w _ _ (numsT_S (by simp; omega)) Hx hS) ?_
  repeat' (first | apply zSeq | apply zReg | apply zSeqN | apply zSeqR | apply zSkip | apply zRet | apply zNil | apply zBlock | apply zExit | apply zBlkN | apply zBlkR | apply zBlkE | apply zSeqE | apply zLoopR | apply zLoopE | refine yYes' ?_ | refine yNo' ?_ | refine yNoU' ?_ | refine yLd' ?_ | refine yLdI' ?_ | refine yStS' ?_ | refine yStF' ?_ | refine ySt' ?_ | refine yBS' fun _ _ => ?_ | refine yAlloc' fun _ _ => ?_ | refine yBox' fun _ _ => ?_ | refine yOp' ?_ | refine yIfT ?_ | refine yIfF ?_ | refine yIf ?_ ?_ | refine ySplit' ?_ ?_ | refine yIfQ ?_ ?_ | refine ySplitQ' ?_ ?_ | refine yBlkX ?_ | intro _)
  exact zDrop (zDrop (zLoopN (n - (k + 1)) (by omega) ⟨k + 1, rfl, by omega, rfl, rfl, rfl, rfl, rfl, rfl, rfl, rfl⟩))
end Go.Proofs.Ytokadkakmhfdeaa.Pq
