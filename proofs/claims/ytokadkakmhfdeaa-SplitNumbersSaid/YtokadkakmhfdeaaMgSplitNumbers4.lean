/- What the proof of a statement of this seat rests on, part 4: PqC5a, PqWEa, PqWFa, PqX2, PqW8, PqWCa, PqC6, PqTr, PqWK, PqC7, PqWL, PqTs, PqWM, PqDr, PqWN, PqX3. -/
import Derived.Test.YtokadkakmhfdeaaMgSplitNumbers3
set_option linter.unusedVariables false
set_option linter.unusedSimpArgs false
set_option linter.unusedSectionVars false
namespace Go.Proofs.Ytokadkakmhfdeaa.Pq
open Go.RowKit
/- Functions in short form. -/
/-! parquetry/mesh.Of (2 parameters; calls 89 parquetry/mesh.Right) -/
def A126 : Ann := { live := fun i => if i = 5 then [0, 5, 18, 19, 20] else [], drop := fun i => false }
noncomputable def c126 : Cc :=
  (.seq (.reg false [⟨some 4, (Op.assign (Operand.const (Value.int IntKind.i64 0))), none⟩])
  (.seq (.seq (.reg false [⟨some 8, (Op.move (Operand.tmp 0)), none⟩,
    ⟨some 9, (Op.call { callee := (Callee.value (Operand.func 89)), args := #[(Operand.tmp 8)], argTypes := #[22] }), none⟩,
    ⟨some 10, (Op.unOp UnOp.not 4 (Operand.tmp 9)), none⟩,
    ⟨some 11, (Op.move (Operand.tmp 10)), none⟩,
    ⟨some 12, (Op.move (Operand.tmp 1)), some (11, false)⟩,
    ⟨some 13, (Op.call { callee := (Callee.builtin Builtin.len), args := #[(Operand.tmp 12)], argTypes := #[22] }), some (11, false)⟩,
    ⟨some 14, (Op.move (Operand.tmp 0)), some (11, false)⟩,
    ⟨some 15, (Op.call { callee := (Callee.builtin Builtin.len), args := #[(Operand.tmp 14)], argTypes := #[22] }), some (11, false)⟩,
    ⟨some 16, (Op.binOp BinOp.neq 3 (Operand.tmp 13) (Operand.tmp 15) 3), some (11, false)⟩,
    ⟨some 17, (Op.pick (Operand.tmp 11) (Operand.const (Value.bool true)) (Operand.tmp 16)), none⟩])
  (.cond (Operand.tmp 17)
    (.seq (.reg false [⟨some 4, (Op.assign (Operand.const (Value.int IntKind.i64 (-1)))), none⟩])
    .ret)
    .skip))
  (.seq (.reg false [⟨some 5, (Op.assign (Operand.const (Value.int IntKind.i64 0))), none⟩])
  (.seq (.seq (.reg false [⟨some 18, (Op.move (Operand.tmp 1)), none⟩,
    ⟨some 19, (Op.call { callee := (Callee.builtin Builtin.len), args := #[(Operand.tmp 18)], argTypes := #[22] }), none⟩,
    ⟨some 20, (Op.move (Operand.const (Value.int IntKind.i64 0))), none⟩])
  (.block 0 (.loop [0, 5, 18, 19, 20] false
    (.seq (.reg false [⟨some 21, (Op.binOp BinOp.lss 3 (Operand.tmp 20) (Operand.tmp 19) 3), none⟩])
    (.seq (.cond (Operand.tmp 21)
      .skip
      (.exit 0))
    (.seq (.block 1 (.seq (.reg false [⟨some 22, (Op.move (Operand.tmp 20)), none⟩,
      ⟨some 23, (Op.indexAddr 22 (Operand.tmp 18) (Operand.tmp 20)), none⟩,
      ⟨some 24, (Op.load 3 (Operand.tmp 23)), none⟩,
      ⟨some 6, (Op.assign (Operand.tmp 22)), none⟩,
      ⟨some 7, (Op.assign (Operand.tmp 24)), none⟩])
    (.seq (.seq (.reg false [⟨some 25, (Op.move (Operand.tmp 7)), none⟩,
      ⟨some 26, (Op.binOp BinOp.lss 3 (Operand.tmp 25) (Operand.const (Value.int IntKind.i64 0)) 3), none⟩,
      ⟨some 27, (Op.move (Operand.tmp 26)), none⟩,
      ⟨some 28, (Op.move (Operand.tmp 7)), some (27, false)⟩,
      ⟨some 29, (Op.move (Operand.tmp 0)), some (27, false)⟩,
      ⟨some 30, (Op.move (Operand.tmp 6)), some (27, false)⟩,
      ⟨some 31, (Op.indexAddr 22 (Operand.tmp 29) (Operand.tmp 30)), some (27, false)⟩,
      ⟨some 32, (Op.load 3 (Operand.tmp 31)), some (27, false)⟩,
      ⟨some 33, (Op.binOp BinOp.geq 3 (Operand.tmp 28) (Operand.tmp 32) 3), some (27, false)⟩,
      ⟨some 34, (Op.pick (Operand.tmp 27) (Operand.const (Value.bool true)) (Operand.tmp 33)), none⟩])
    (.cond (Operand.tmp 34)
      (.seq (.reg false [⟨some 4, (Op.assign (Operand.const (Value.int IntKind.i64 (-1)))), none⟩])
      .ret)
      .skip))
    (.reg false [⟨some 35, (Op.move (Operand.tmp 5)), none⟩,
      ⟨some 36, (Op.move (Operand.tmp 0)), none⟩,
      ⟨some 37, (Op.move (Operand.tmp 6)), none⟩,
      ⟨some 38, (Op.indexAddr 22 (Operand.tmp 36) (Operand.tmp 37)), none⟩,
      ⟨some 39, (Op.load 3 (Operand.tmp 38)), none⟩,
      ⟨some 40, (Op.binOp BinOp.mul 3 (Operand.tmp 35) (Operand.tmp 39) 3), none⟩,
      ⟨some 41, (Op.move (Operand.tmp 7)), none⟩,
      ⟨some 42, (Op.binOp BinOp.add 3 (Operand.tmp 40) (Operand.tmp 41) 3), none⟩,
      ⟨some 5, (Op.assign (Operand.tmp 42)), none⟩]))))
    (.reg false [⟨some 43, (Op.binOp BinOp.add 3 (Operand.tmp 20) (Operand.const (Value.int IntKind.i64 1)) 3), none⟩,
      ⟨some 20, (Op.move (Operand.tmp 43)), none⟩])))))))
  (.seq (.reg false [⟨some 44, (Op.move (Operand.tmp 5)), none⟩,
    ⟨some 4, (Op.assign (Operand.tmp 44)), none⟩])
  .ret)))))
noncomputable def b126 : Code := Try.f126.body.getD .skip
theorem hb126 : Try.f126.body = some b126 := by kernel_rfl
theorem sh126 : shortC A126 b126 = c126 := by kernel_rfl
def rs126 : List ResultVar := [(ResultVar.tmp 4)]
theorem hr126 : Try.f126.results.toList = rs126 := by kernel_rfl
/-! parquetry/spec.First (3 parameters; calls 63 parquetry/spec.Right, 88 parquetry/mesh.Devices, 123 parquetry/mesh.At, 125 slices.Contains[[]int,int], 126 parquetry/mesh.Of) -/
def A66 : Ann := { live := fun i => if i = 5 then [0, 1, 7, 29, 30] else [], drop := fun i => false }
noncomputable def c66 : Cc :=
  (.seq (.reg false [⟨some 6, (Op.assign (Operand.const (Value.int IntKind.i64 0))), none⟩])
  (.seq (.seq (.reg false [⟨some 9, (Op.move (Operand.tmp 0)), none⟩,
    ⟨some 10, (Op.move (Operand.tmp 1)), none⟩,
    ⟨some 11, (Op.move (Operand.tmp 1)), none⟩,
    ⟨some 12, (Op.call { callee := (Callee.builtin Builtin.len), args := #[(Operand.tmp 11)], argTypes := #[22] }), none⟩,
    ⟨some 13, (Op.call { callee := (Callee.value (Operand.func 63)), args := #[(Operand.tmp 9), (Operand.tmp 10), (Operand.tmp 12)], argTypes := #[22, 22, 3] }), none⟩,
    ⟨some 14, (Op.unOp UnOp.not 4 (Operand.tmp 13)), none⟩,
    ⟨some 15, (Op.move (Operand.tmp 14)), none⟩,
    ⟨some 16, (Op.move (Operand.tmp 2)), some (15, false)⟩,
    ⟨some 17, (Op.binOp BinOp.lss 3 (Operand.tmp 16) (Operand.const (Value.int IntKind.i64 0)) 3), some (15, false)⟩,
    ⟨some 18, (Op.pick (Operand.tmp 15) (Operand.const (Value.bool true)) (Operand.tmp 17)), none⟩,
    ⟨some 19, (Op.move (Operand.tmp 18)), none⟩,
    ⟨some 20, (Op.move (Operand.tmp 2)), some (19, false)⟩,
    ⟨some 21, (Op.move (Operand.tmp 0)), some (19, false)⟩,
    ⟨some 22, (Op.call { callee := (Callee.value (Operand.func 88)), args := #[(Operand.tmp 21)], argTypes := #[22] }), some (19, false)⟩,
    ⟨some 23, (Op.binOp BinOp.geq 3 (Operand.tmp 20) (Operand.tmp 22) 3), some (19, false)⟩,
    ⟨some 24, (Op.pick (Operand.tmp 19) (Operand.const (Value.bool true)) (Operand.tmp 23)), none⟩])
  (.cond (Operand.tmp 24)
    (.seq (.reg false [⟨some 6, (Op.assign (Operand.const (Value.int IntKind.i64 (-1)))), none⟩])
    .ret)
    .skip))
  (.seq (.reg false [⟨some 25, (Op.move (Operand.tmp 0)), none⟩,
    ⟨some 26, (Op.move (Operand.tmp 2)), none⟩,
    ⟨some 27, (Op.call { callee := (Callee.value (Operand.func 123)), args := #[(Operand.tmp 25), (Operand.tmp 26)], argTypes := #[22, 3] }), none⟩,
    ⟨some 7, (Op.assign (Operand.tmp 27)), none⟩])
  (.seq (.seq (.reg false [⟨some 28, (Op.move (Operand.tmp 7)), none⟩,
    ⟨some 29, (Op.call { callee := (Callee.builtin Builtin.len), args := #[(Operand.tmp 28)], argTypes := #[22] }), none⟩,
    ⟨some 30, (Op.move (Operand.const (Value.int IntKind.i64 0))), none⟩])
  (.block 0 (.loop [0, 1, 7, 29, 30] false
    (.seq (.reg false [⟨some 31, (Op.binOp BinOp.lss 3 (Operand.tmp 30) (Operand.tmp 29) 3), none⟩])
    (.seq (.cond (Operand.tmp 31)
      .skip
      (.exit 0))
    (.seq (.block 1 (.seq (.reg false [⟨some 32, (Op.move (Operand.tmp 30)), none⟩,
      ⟨some 8, (Op.assign (Operand.tmp 32)), none⟩])
    (.seq (.reg false [⟨some 33, (Op.move (Operand.tmp 1)), none⟩,
      ⟨some 34, (Op.move (Operand.tmp 8)), none⟩,
      ⟨some 35, (Op.call { callee := (Callee.value (Operand.func 125)), args := #[(Operand.tmp 33), (Operand.tmp 34)], argTypes := #[22, 3] }), none⟩,
      ⟨some 36, (Op.unOp UnOp.not 4 (Operand.tmp 35)), none⟩])
    (.cond (Operand.tmp 36)
      (.reg false [⟨some 37, (Op.move (Operand.tmp 7)), none⟩,
        ⟨some 38, (Op.move (Operand.tmp 8)), none⟩,
        ⟨some 39, (Op.indexAddr 22 (Operand.tmp 37) (Operand.tmp 38)), none⟩,
        ⟨none, (Op.store 3 (Operand.tmp 39) (Operand.const (Value.int IntKind.i64 0))), none⟩])
      .skip))))
    (.reg false [⟨some 40, (Op.binOp BinOp.add 3 (Operand.tmp 30) (Operand.const (Value.int IntKind.i64 1)) 3), none⟩,
      ⟨some 30, (Op.move (Operand.tmp 40)), none⟩])))))))
  (.seq (.reg false [⟨some 41, (Op.move (Operand.tmp 0)), none⟩,
    ⟨some 42, (Op.move (Operand.tmp 7)), none⟩,
    ⟨some 43, (Op.call { callee := (Callee.value (Operand.func 126)), args := #[(Operand.tmp 41), (Operand.tmp 42)], argTypes := #[22, 22] }), none⟩,
    ⟨some 6, (Op.assign (Operand.tmp 43)), none⟩])
  .ret)))))
noncomputable def b66 : Code := Try.f66.body.getD .skip
theorem hb66 : Try.f66.body = some b66 := by kernel_rfl
theorem sh66 : shortC A66 b66 = c66 := by kernel_rfl
def rs66 : List ResultVar := [(ResultVar.tmp 6)]
theorem hr66 : Try.f66.results.toList = rs66 := by kernel_rfl
/-! slices.Equal[[]int,int] (2 parameters; calls none) -/
def A129 : Ann := { live := fun i => if i = 4 then [0, 1, 12, 13] else [], drop := fun i => false }
noncomputable def c129 : Cc :=
  (.seq (.reg false [⟨some 4, (Op.assign (Operand.const (Value.bool false))), none⟩])
  (.seq (.seq (.reg false [⟨some 6, (Op.move (Operand.tmp 0)), none⟩,
    ⟨some 7, (Op.call { callee := (Callee.builtin Builtin.len), args := #[(Operand.tmp 6)], argTypes := #[22] }), none⟩,
    ⟨some 8, (Op.move (Operand.tmp 1)), none⟩,
    ⟨some 9, (Op.call { callee := (Callee.builtin Builtin.len), args := #[(Operand.tmp 8)], argTypes := #[22] }), none⟩,
    ⟨some 10, (Op.binOp BinOp.neq 3 (Operand.tmp 7) (Operand.tmp 9) 3), none⟩])
  (.cond (Operand.tmp 10)
    (.seq (.reg false [⟨some 4, (Op.assign (Operand.const (Value.bool false))), none⟩])
    .ret)
    .skip))
  (.seq (.seq (.reg false [⟨some 11, (Op.move (Operand.tmp 0)), none⟩,
    ⟨some 12, (Op.call { callee := (Callee.builtin Builtin.len), args := #[(Operand.tmp 11)], argTypes := #[22] }), none⟩,
    ⟨some 13, (Op.move (Operand.const (Value.int IntKind.i64 0))), none⟩])
  (.block 0 (.loop [0, 1, 12, 13] false
    (.seq (.reg false [⟨some 14, (Op.binOp BinOp.lss 3 (Operand.tmp 13) (Operand.tmp 12) 3), none⟩])
    (.seq (.cond (Operand.tmp 14)
      .skip
      (.exit 0))
    (.seq (.block 1 (.seq (.reg false [⟨some 15, (Op.move (Operand.tmp 13)), none⟩,
      ⟨some 5, (Op.assign (Operand.tmp 15)), none⟩])
    (.seq (.reg false [⟨some 16, (Op.move (Operand.tmp 0)), none⟩,
      ⟨some 17, (Op.move (Operand.tmp 5)), none⟩,
      ⟨some 18, (Op.indexAddr 22 (Operand.tmp 16) (Operand.tmp 17)), none⟩,
      ⟨some 19, (Op.load 3 (Operand.tmp 18)), none⟩,
      ⟨some 20, (Op.move (Operand.tmp 1)), none⟩,
      ⟨some 21, (Op.move (Operand.tmp 5)), none⟩,
      ⟨some 22, (Op.indexAddr 22 (Operand.tmp 20) (Operand.tmp 21)), none⟩,
      ⟨some 23, (Op.load 3 (Operand.tmp 22)), none⟩,
      ⟨some 24, (Op.binOp BinOp.neq 3 (Operand.tmp 19) (Operand.tmp 23) 3), none⟩])
    (.cond (Operand.tmp 24)
      (.seq (.reg false [⟨some 4, (Op.assign (Operand.const (Value.bool false))), none⟩])
      .ret)
      .skip))))
    (.reg false [⟨some 25, (Op.binOp BinOp.add 3 (Operand.tmp 13) (Operand.const (Value.int IntKind.i64 1)) 3), none⟩,
      ⟨some 13, (Op.move (Operand.tmp 25)), none⟩])))))))
  (.seq (.reg false [⟨some 4, (Op.assign (Operand.const (Value.bool true))), none⟩])
  .ret))))
noncomputable def b129 : Code := Try.f129.body.getD .skip
theorem hb129 : Try.f129.body = some b129 := by kernel_rfl
theorem sh129 : shortC A129 b129 = c129 := by kernel_rfl
def rs129 : List ResultVar := [(ResultVar.tmp 4)]
theorem hr129 : Try.f129.results.toList = rs129 := by kernel_rfl
/- Walks: which device is somewhere; lists that are the same. -/
def ofGo : Int → List Int → List Int → Int
  | d, s :: sz, k :: l => if k < 0 ∨ s ≤ k then -1 else ofGo (w (w (d * s) + k)) sz l
  | d, _, _ => d
/-- Which device is there. -/
def ofL (sz l : List Int) : Int := if meshOK sz = false ∨ l.length ≠ sz.length then -1 else ofGo 0 sz l
def F126 (args : List AV) (H : Hp) : Option AV := match args with
  | [a, b] => (ints H a).bind fun sz => (ints H b).map fun l => .int .i64 (ofL sz l)
  | _ => none
set_option maxHeartbeats 1000000 in
theorem snd126 : Sound Try.prog 126 (FSem.pure F126).run := by
  refine sound_of hT (EOK_cons snd89 (EOK_nil _)) mixed A126 Try.func126 hb126 (by kernel_rfl) (by kernel_rfl) (by kernel_rfl) (by kernel_rfl) sh126 2 (by kernel_rfl) rs126 hr126 ?_
  intro args H r H' hw h
  obtain ⟨rfl, hv⟩ := pureAt h
  clear h
  unfold F126 at hv
  split at hv
  · rename_i a v
    obtain ⟨sz, hsz, hv⟩ := Option.bind_eq_some_iff.1 hv
    obtain ⟨l, hl, hv⟩ := Option.map_eq_some_iff.1 hv
    cases hv
    have hlen := alenS_ints hl
    have hb := ints_len hl
    have hlen2 := alenS_ints hsz
    have hix := aidxS_ints hl .i64
    have hld := aload_nth T3 rfl hl
    have hix2 := aidxS_ints hsz .i64
    have hld2 := aload_nth T3 rfl hsz
    refine ⟨rfl, go ?_⟩
    unfold c126
    simp only [argSl]
    simp only [← aidx22, ← alen22] at hix hlen hix2 hlen2
    rcases hm : meshOK sz with _ | _
    · repeat' (first | apply goSeq | apply goReg | apply goSeqN | apply goSeqR | apply goSkip | apply goRet | apply goNil | apply goBlock | apply goExit | apply goBlkN | apply goBlkR | apply goBlkE | apply goSeqE | apply goLoopR | apply goLoopE | refine xOp ?_ | refine xOp0 ?_ | refine xYes ?_ | refine xNo ?_ | refine xNoU ?_ | refine xIfT ?_ | refine xIfF ?_ | refine xIf ?_ ?_ | refine xSplit ?_ ?_ | refine xIfQ ?_ ?_ | refine xSplitQ ?_ ?_ | refine xBlkX ?_ | intro _)
      refine goEnd hw (Pre.refl _) (by simp) (by simp [rs126]; exact rfl) rfl ?_
      simp [ofL, hm]
    · by_cases hll : l.length = sz.length
      · have hres : ofL sz l = ofGo 0 sz l := by simp [ofL, hm, hll]
        have hll' : (sz.length : Int) = l.length := by omega
        rw [hres]
        rw [hll'] at hix2 hld2 hlen2
        have hll'' : l.length = sz.length := hll
        clear hll hll' hres
        replace hll'' := Hide.mk hll''
        repeat' (first | apply goSeq | apply goReg | apply goSeqN | apply goSeqR | apply goSkip | apply goRet | apply goNil | apply goBlock | apply goExit | apply goBlkN | apply goBlkR | apply goBlkE | apply goSeqE | apply goLoopR | apply goLoopE | refine xOp ?_ | refine xOp0 ?_ | refine xYes ?_ | refine xNo ?_ | refine xNoU ?_ | refine xIfT ?_ | refine xIfF ?_ | refine xIf ?_ ?_ | refine xSplit ?_ ?_ | refine xIfQ ?_ ?_ | refine xSplitQ ?_ ?_ | refine xBlkX ?_ | intro _)
        refine goLoop (fun m s1 H1 => H1 = H' ∧ ∃ (i : Nat) (d : Int), m = l.length - i ∧ i ≤ l.length ∧ get s1 0 = a ∧ get s1 5 = .int .i64 d ∧ get s1 18 = v ∧ get s1 19 = .int .i64 l.length ∧ get s1 20 = .int .i64 i ∧ ofGo d (sz.drop i) (l.drop i) = ofGo 0 sz l) l.length ?_ ?_
        · exact ⟨rfl, 0, 0, rfl, Nat.zero_le _, rfl, rfl, rfl, rfl, rfl, by simp⟩
        · rintro m s1 H1 ⟨rfl, i, d, hmm, hi, g1, g2, g3, g4, g5, hgo⟩
          simp only [cut_cons, cut_nil, g1, g2, g3, g4, g5]
          clear g1 g2 g3 g4 g5
          have hi0 : (0 : Int) ≤ i := Int.natCast_nonneg i
          have hw1 : w ((i : Int) + 1) = ((i + 1 : Nat) : Int) := w_id (by omega)
          have hd := fun h => drop_nth l i h
          have hd2 : i < l.length → sz.drop i = nth sz i :: sz.drop (i + 1) := fun h => drop_nth sz i (by have := hll''.out; omega)
          have hnil : ¬ i < l.length → l.drop i = [] := fun h => List.drop_of_length_le (by omega)
          replace hgo := Hide.mk hgo
          replace hd := Hide.mk hd
          replace hd2 := Hide.mk hd2
          replace hnil := Hide.mk hnil
          repeat' (first | apply goSeq | apply goReg | apply goSeqN | apply goSeqR | apply goSkip | apply goRet | apply goNil | apply goBlock | apply goExit | apply goBlkN | apply goBlkR | apply goBlkE | apply goSeqE | apply goLoopR | apply goLoopE | refine xOp ?_ | refine xOp0 ?_ | refine xYes ?_ | refine xNo ?_ | refine xNoU ?_ | refine xIfT ?_ | refine xIfF ?_ | refine xIf ?_ ?_ | refine xSplit ?_ ?_ | refine xIfQ ?_ ?_ | refine xSplitQ ?_ ?_ | refine xBlkX ?_ | intro _)
          all_goals replace hgo := hgo.out
          all_goals replace hd := hd.out
          all_goals replace hd2 := hd2.out
          all_goals (try simp only [Bool.not_eq_true', decide_eq_false_iff_not, Bool.not_eq_false', decide_eq_true_eq] at *)
          all_goals first
            | (refine goEnd hw (Pre.refl _) (by simp) (by simp [rs126]; exact rfl) rfl ?_; rw [← hgo, hd (by assumption), hd2 (by assumption)]; simp [ofGo, *]; done)
            | (refine goEnd hw (Pre.refl _) (by simp) (by simp [rs126]; exact rfl) rfl ?_; rw [← hgo, hnil.out (by assumption)]; cases sz.drop i <;> simp [ofGo]; done)
            | (refine goLoopN (l.length - (i + 1)) (by omega) ⟨rfl, i + 1, _, rfl, by omega, rfl, rfl, rfl, rfl, rfl, ?_⟩; rw [← hgo, hd (by assumption), hd2 (by assumption)]; simp [ofGo, *])
      · repeat' (first | apply goSeq | apply goReg | apply goSeqN | apply goSeqR | apply goSkip | apply goRet | apply goNil | apply goBlock | apply goExit | apply goBlkN | apply goBlkR | apply goBlkE | apply goSeqE | apply goLoopR | apply goLoopE | refine xOp ?_ | refine xOp0 ?_ | refine xYes ?_ | refine xNo ?_ | refine xNoU ?_ | refine xIfT ?_ | refine xIfF ?_ | refine xIf ?_ ?_ | refine xSplit ?_ ?_ | refine xIfQ ?_ ?_ | refine xSplitQ ?_ ?_ | refine xBlkX ?_ | intro _)
        · refine goEnd hw (Pre.refl _) (by simp) (by simp [rs126]; exact rfl) rfl ?_
          simp [ofL, hm, hll]
        · rename_i hc
          simp at hc
          omega
  · cases hv
@[simp] theorem F126_at (a b : AV) (H : Hp) : F126 [a, b] H = (ints H a).bind fun sz => (ints H b).map fun l => .int .i64 (ofL sz l) := rfl
/- Walks: where a device is, in the document; slices.Equal; the least device that has the same part. -/
theorem sameGo_refl : ∀ l : List Int, sameGo l l = true := by
  intro l
  induction l with
  | nil => rfl
  | cons a l ih => simp [sameGo, nth, ih]
theorem sameL_refl (l : List Int) : sameL l l = true := by simp [sameL, sameGo_refl]
def F129 (args : List AV) (H : Hp) : Option AV := match args with
  | [a, b] => (ints H a).bind fun l => (ints H b).map fun m => .bool (sameL l m)
  | _ => none
theorem snd129 : Sound Try.prog 129 (FSem.pure F129).run := by
  refine sound_of hT (EOK_nil _) mixed A129 Try.func129 hb129 (by kernel_rfl) (by kernel_rfl) (by kernel_rfl) (by kernel_rfl) sh129 2 (by kernel_rfl) rs129 hr129 ?_
  intro args H r H' hw h
  obtain ⟨rfl, hv⟩ := pureAt h
  clear h
  unfold F129 at hv
  split at hv
  · rename_i v u
    obtain ⟨l, hl, hv⟩ := Option.bind_eq_some_iff.1 hv
    obtain ⟨q, hq, hv⟩ := Option.map_eq_some_iff.1 hv
    cases hv
    have hlen := alenS_ints hl
    have hlen2 := alenS_ints hq
    have hb := ints_len hl
    have hix := aidxS_ints hl .i64
    have hld := aload_nth T3 rfl hl
    have hix2 := aidxS_ints hq .i64
    have hld2 := aload_nth T3 rfl hq
    refine ⟨rfl, go ?_⟩
    unfold c129
    simp only [argSl]
    simp only [← aidx22, ← alen22] at hix hlen hix2 hlen2
    repeat' (first | apply goSeq | apply goReg | apply goSeqN | apply goSeqR | apply goSkip | apply goRet | apply goNil | apply goBlock | apply goExit | apply goBlkN | apply goBlkR | apply goBlkE | apply goSeqE | apply goLoopR | apply goLoopE | refine xOp ?_ | refine xOp0 ?_ | refine xYes ?_ | refine xNo ?_ | refine xNoU ?_ | refine xIfT ?_ | refine xIfF ?_ | refine xIf ?_ ?_ | refine xSplit ?_ ?_ | refine xIfQ ?_ ?_ | refine xSplitQ ?_ ?_ | refine xBlkX ?_ | intro _)
    · rename_i hne
      refine goEnd hw (Pre.refl _) (by simp) (by simp [rs129]; exact rfl) rfl ?_
      have : ¬ l.length = q.length := by simp at hne; omega
      simp [sameL, this]
    · rename_i hne
      have hll : l.length = q.length := by simp at hne; omega
      have hll' : (q.length : Int) = l.length := by omega
      have hres : sameL l q = sameGo l q := by simp [sameL, hll]
      rw [hres]
      clear hne hv hres hlen2
      refine goLoop (fun m s1 H1 => H1 = H' ∧ ∃ (i : Nat), m = l.length - i ∧ i ≤ l.length ∧ get s1 0 = v ∧ get s1 1 = u ∧ get s1 12 = .int .i64 l.length ∧ get s1 13 = .int .i64 i ∧ sameGo (l.drop i) (q.drop i) = sameGo l q) l.length ?_ ?_
      · exact ⟨rfl, 0, rfl, Nat.zero_le _, rfl, rfl, rfl, rfl, by simp⟩
      · rintro m s1 H1 ⟨rfl, i, hm, hi, g3, g9, g10, g11, hgo⟩
        simp only [cut_cons, cut_nil, g3, g9, g10, g11]
        have hi0 : (0 : Int) ≤ i := Int.natCast_nonneg i
        have hd := fun h => drop_nth l i h
        have hnil : ¬ i < l.length → l.drop i = [] := fun h => List.drop_of_length_le (by omega)
        have hw1 : w ((i : Int) + 1) = ((i + 1 : Nat) : Int) := w_id (by omega)
        clear g3 g9 g10 g11
        rw [hll'] at hix2 hld2
        replace hgo := Hide.mk hgo
        clear hll hll'
        repeat' (first | apply goSeq | apply goReg | apply goSeqN | apply goSeqR | apply goSkip | apply goRet | apply goNil | apply goBlock | apply goExit | apply goBlkN | apply goBlkR | apply goBlkE | apply goSeqE | apply goLoopR | apply goLoopE | refine xOp ?_ | refine xOp0 ?_ | refine xYes ?_ | refine xNo ?_ | refine xNoU ?_ | refine xIfT ?_ | refine xIfF ?_ | refine xIf ?_ ?_ | refine xSplit ?_ ?_ | refine xIfQ ?_ ?_ | refine xSplitQ ?_ ?_ | refine xBlkX ?_ | intro _)
        all_goals replace hgo := hgo.out
        all_goals (try simp only [Bool.not_eq_true', decide_eq_false_iff_not, Bool.not_eq_false', decide_eq_true_eq] at *)
        all_goals first
          | (refine goEnd hw (Pre.refl _) (by simp) (by simp [rs129]; exact rfl) rfl ?_; rw [← hgo]; simp [sameGo, nth_drop, hd, hnil, *]; done)
          | (refine goLoopN (l.length - (i + 1)) (by omega) ⟨rfl, i + 1, rfl, by omega, rfl, rfl, rfl, rfl, ?_⟩; rw [← hgo]; simp [sameGo, nth_drop, hd, *])
  · cases hv
@[simp] theorem F129_at (a b : AV) (H : Hp) : F129 [a, b] H = (ints H a).bind fun l => (ints H b).map fun m => .bool (sameL l m) := rfl
/-- Only the axes that a spec has. -/
def maskL (sp : List Int) : Nat → List Int → List Int
  | _, [] => []
  | i, a :: l => (if contains sp i = true then a else 0) :: maskL sp (i + 1) l
/-- The least device that has the same part. -/
def firstL (sz sp : List Int) (d : Int) : Int := if specOK sz sp sp.length = false ∨ d < 0 ∨ devs sz ≤ d then -1 else ofL sz (maskL sp 0 (meshAt sz d))
def F66 (args : List AV) (H : Hp) : Option AV := match args with
  | [a, b, .int .i64 d] => (ints H a).bind fun sz => (ints H b).map fun sp => .int .i64 (firstL sz sp d)
  | _ => none
set_option maxHeartbeats 1000000 in
theorem snd66 : Sound Try.prog 66 (FSem.pure F66).run := by
  refine sound_of hT (EOK_cons snd63 (EOK_cons snd88 (EOK_cons snd123 (EOK_cons snd125 (EOK_cons snd126 (EOK_nil _)))))) mixed A66 Try.func66 hb66 (by kernel_rfl) (by kernel_rfl) (by kernel_rfl) (by kernel_rfl) sh66 3 (by kernel_rfl) rs66 hr66 ?_
  intro args H r H' hw h
  obtain ⟨rfl, hv⟩ := pureAt h
  clear h
  unfold F66 at hv
  split at hv
  · rename_i a v d
    obtain ⟨sz, hsz, hv⟩ := Option.bind_eq_some_iff.1 hv
    obtain ⟨l, hl, hv⟩ := Option.map_eq_some_iff.1 hv
    cases hv
    have hlen := alenS_ints hl
    simp only [← alen22] at hlen
    refine ⟨rfl, go ?_⟩
    unfold c66
    simp only [argSl]
    rcases hsp : specOK sz l l.length with _ | _
    · repeat' (first | apply goSeq | apply goReg | apply goSeqN | apply goSeqR | apply goSkip | apply goRet | apply goNil | apply goBlock | apply goExit | apply goBlkN | apply goBlkR | apply goBlkE | apply goSeqE | apply goLoopR | apply goLoopE | refine xOp ?_ | refine xOp0 ?_ | refine xYes ?_ | refine xNo ?_ | refine xNoU ?_ | refine xIfT ?_ | refine xIfF ?_ | refine xIf ?_ ?_ | refine xSplit ?_ ?_ | refine xIfQ ?_ ?_ | refine xSplitQ ?_ ?_ | refine xBlkX ?_ | intro _)
      refine goEnd hw (Pre.refl _) (by simp) (by simp [rs66]; exact rfl) rfl ?_
      simp [firstL, hsp]
    by_cases hd0 : d < 0
    · repeat' (first | apply goSeq | apply goReg | apply goSeqN | apply goSeqR | apply goSkip | apply goRet | apply goNil | apply goBlock | apply goExit | apply goBlkN | apply goBlkR | apply goBlkE | apply goSeqE | apply goLoopR | apply goLoopE | refine xOp ?_ | refine xOp0 ?_ | refine xYes ?_ | refine xNo ?_ | refine xNoU ?_ | refine xIfT ?_ | refine xIfF ?_ | refine xIf ?_ ?_ | refine xSplit ?_ ?_ | refine xIfQ ?_ ?_ | refine xSplitQ ?_ ?_ | refine xBlkX ?_ | intro _)
      refine goEnd hw (Pre.refl _) (by simp) (by simp [rs66]; exact rfl) rfl ?_
      simp [firstL, hd0]
    by_cases hd1 : devs sz ≤ d
    · repeat' (first | apply goSeq | apply goReg | apply goSeqN | apply goSeqR | apply goSkip | apply goRet | apply goNil | apply goBlock | apply goExit | apply goBlkN | apply goBlkR | apply goBlkE | apply goSeqE | apply goLoopR | apply goLoopE | refine xOp ?_ | refine xOp0 ?_ | refine xYes ?_ | refine xNo ?_ | refine xNoU ?_ | refine xIfT ?_ | refine xIfF ?_ | refine xIf ?_ ?_ | refine xSplit ?_ ?_ | refine xIfQ ?_ ?_ | refine xSplitQ ?_ ?_ | refine xBlkX ?_ | intro _)
      refine goEnd hw (Pre.refl _) (by simp) (by simp [rs66]; exact rfl) rfl ?_
      simp [firstL, hd1]
    have hres : firstL sz l d = ofL sz (maskL l 0 (meshAt sz d)) := by simp [firstL, hsp, hd0, hd1]
    rw [hres]
    have h3 := (meshOK_pos (specOK_lt hsp).2.1).1
    have hml := meshAt_len sz d
    have e123 : F123 [a, .int .i64 d] H' = some (mkF H' (meshAt sz d)) := by
      simp only [F123, hsz, Option.map_some]
      rw [if_neg (by omega)]
    generalize meshAt sz d = M at *
    have hMe := mkF_ext hw M
    have hMo := mkF_own H' M
    have hMl : alen T 22 (mkF H' M).1 = some (.int .i64 M.length) := by rw [alen22]; rfl
    clear hres
    generalize hr1 : mkF H' M = r1 at *
    obtain ⟨u0, H1⟩ := r1
    simp only at hMe hMo hMl
    replace hMo := Hide.mk hMo
    replace hml := Hide.mk hml
    repeat' (first | apply goSeq | apply goReg | apply goSeqN | apply goSeqR | apply goSkip | apply goRet | apply goNil | apply goBlock | apply goExit | apply goBlkN | apply goBlkR | apply goBlkE | apply goSeqE | apply goLoopR | apply goLoopE | refine xOp ?_ | refine xOp0 ?_ | refine xYes ?_ | refine xNo ?_ | refine xNoU ?_ | refine xIfT ?_ | refine xIfF ?_ | refine xIf ?_ ?_ | refine xSplit ?_ ?_ | refine xIfQ ?_ ?_ | refine xSplitQ ?_ ?_ | refine xBlkX ?_ | intro _)
    refine goLoop (fun m s1 H2 => Ext H' H2 ∧ ∃ (i : Nat) (out : List Int), m = M.length - i ∧ i ≤ M.length ∧ get s1 0 = a ∧ get s1 1 = v ∧ get s1 7 = u0 ∧ get s1 29 = .int .i64 M.length ∧ get s1 30 = .int .i64 i ∧ OwnF H' H2 u0 out ∧ out.length = M.length ∧ out.take i ++ maskL l i (out.drop i) = maskL l 0 M) M.length ?_ ?_
    · exact ⟨hMe, 0, M, rfl, Nat.zero_le _, rfl, rfl, rfl, rfl, rfl, hMo.out, rfl, by simp⟩
    · clear e123 hMe hMo hMl hr1
      rintro m s1 H2 ⟨he, i, out, hmm, hi, g1, g2, g3, g4, g5, ho, hol, hgo⟩
      simp only [cut_cons, cut_nil, g1, g2, g3, g4, g5]
      clear g1 g2 g3 g4 g5
      have hi0 : (0 : Int) ≤ i := Int.natCast_nonneg i
      have hw1 : w ((i : Int) + 1) = ((i + 1 : Nat) : Int) := w_id (by have := hml.out; omega)
      have hiu := ints_of_ownF ho (by have := hml.out; omega)
      have hixu := aidxS_ints hiu .i64
      simp only [← aidx22, hol] at hixu
      have hsz2 := ints_ext he.pre hsz
      have hl2 := ints_ext he.pre hl
      have hd := fun h => drop_nth out i h
      have ht := fun h => take_nth out i h
      clear hsz hl
      replace hd := Hide.mk hd
      replace ht := Hide.mk ht
      replace ho := Hide.mk ho
      replace hgo := Hide.mk hgo
      replace hol := Hide.mk hol
      rcases hc : contains l i with _ | _
      · have hc' := Hide.mk hc
        repeat' (first | apply goSeq | apply goReg | apply goSeqN | apply goSeqR | apply goSkip | apply goRet | apply goNil | apply goBlock | apply goExit | apply goBlkN | apply goBlkR | apply goBlkE | apply goSeqE | apply goLoopR | apply goLoopE | refine xOp ?_ | refine xOp0 ?_ | refine xYes ?_ | refine xNo ?_ | refine xNoU ?_ | refine xIfT ?_ | refine xIfF ?_ | refine xIf ?_ ?_ | refine xSplit ?_ ?_ | refine xIfQ ?_ ?_ | refine xSplitQ ?_ ?_ | refine xBlkX ?_ | intro _)
        · rename_i hil
          have hol := hol.out
          obtain ⟨H3, e, ho3, he3⟩ := store_own hw he ho.out i (by omega) 0
          refine goOp0 (v := .bad) (H' := H3) rfl (by simp [e]) ?_
          clear e
          replace ho3 := Hide.mk ho3
          have hol' := Hide.mk hol
          clear hol
          repeat' (first | apply goSeq | apply goReg | apply goSeqN | apply goSeqR | apply goSkip | apply goRet | apply goNil | apply goBlock | apply goExit | apply goBlkN | apply goBlkR | apply goBlkE | apply goSeqE | apply goLoopR | apply goLoopE | refine xOp ?_ | refine xOp0 ?_ | refine xYes ?_ | refine xNo ?_ | refine xNoU ?_ | refine xIfT ?_ | refine xIfF ?_ | refine xIf ?_ ?_ | refine xSplit ?_ ?_ | refine xIfQ ?_ ?_ | refine xSplitQ ?_ ?_ | refine xBlkX ?_ | intro _)
          have hol := hol'.out
          refine goLoopN (M.length - (i + 1)) (by omega) ⟨he3, i + 1, out.set i 0, rfl, by omega, rfl, rfl, rfl, rfl, rfl, ho3.out, by simp [hol], ?_⟩
          rw [take_set1 out i 0 (by omega), ← hgo.out, hd.out (by omega)]
          simp [maskL, hc, List.drop_set]
        · rename_i hil
          refine goEnd hw he.pre (by simp) (by simp [rs66]; exact rfl) rfl ?_
          have h1 := hgo.out
          have hol := hol.out
          rw [List.drop_of_length_le (by omega), List.take_of_length_le (by omega)] at h1
          simp only [maskL, List.append_nil] at h1
          rw [← h1]; rfl
      · repeat' (first | apply goSeq | apply goReg | apply goSeqN | apply goSeqR | apply goSkip | apply goRet | apply goNil | apply goBlock | apply goExit | apply goBlkN | apply goBlkR | apply goBlkE | apply goSeqE | apply goLoopR | apply goLoopE | refine xOp ?_ | refine xOp0 ?_ | refine xYes ?_ | refine xNo ?_ | refine xNoU ?_ | refine xIfT ?_ | refine xIfF ?_ | refine xIf ?_ ?_ | refine xSplit ?_ ?_ | refine xIfQ ?_ ?_ | refine xSplitQ ?_ ?_ | refine xBlkX ?_ | intro _)
        · rename_i hil
          have hol := hol.out
          refine goLoopN (M.length - (i + 1)) (by omega) ⟨he, i + 1, out, rfl, by omega, rfl, rfl, rfl, rfl, rfl, ho.out, hol, ?_⟩
          rw [← hgo.out, ht.out (by omega), hd.out (by omega)]
          simp [maskL, hc]
        · rename_i hil
          refine goEnd hw he.pre (by simp) (by simp [rs66]; exact rfl) rfl ?_
          have h1 := hgo.out
          have hol := hol.out
          rw [List.drop_of_length_le (by omega), List.take_of_length_le (by omega)] at h1
          simp only [maskL, List.append_nil] at h1
          rw [← h1]; rfl
  · cases hv
@[simp] theorem F66_at (a b : AV) (d : Int) (H : Hp) : F66 [a, b, .int .i64 d] H = (ints H a).bind fun sz => (ints H b).map fun sp => .int .i64 (firstL sz sp d) := rfl
/- Plain law of TileShares: all devices' parts together are the shape's numbers as often as there are copies. -/
def six : List (List Int) := [[2], [2, 4], [3, 2], [2, 2, 2], [], [5], [2, 2]]
/-- The tape's numbers are numbers of 64 bits. -/
def In64 (l : List Int) : Prop := ∀ j : Nat, j < l.length → -9223372036854775808 ≤ nth l j ∧ nth l j < 9223372036854775808
theorem next_in {l : List Int} (h : In64 l) (a : Nat) (n : Int) (hn : 1 ≤ n) : 0 ≤ nextOf l a n ∧ nextOf l a n < n := by
  unfold nextOf
  split
  · rename_i h1
    exact tmod_range _ n hn (within_range _ (h a h1.1))
  · omega
theorem lens_mem : ∀ k : Nat, k < 8 → nth lens (k : Int) ∈ lens := by decide
theorem shapeT_len (l : List Int) : ∀ n a, (shapeT l n a).1.length = n := by
  intro n
  induction n with
  | zero => intro a; rfl
  | succ n ih => intro a; simp [shapeT, ih]
theorem shapeT_mem {l : List Int} (h : In64 l) : ∀ n a, ∀ x ∈ (shapeT l n a).1, x ∈ lens := by
  intro n
  induction n with
  | zero => intro a x hx; simp [shapeT] at hx
  | succ n ih =>
    intro a x hx
    simp only [shapeT, List.mem_cons] at hx
    rcases hx with rfl | hx
    · obtain ⟨h1, h2⟩ := next_in h a 8 (by omega)
      have := lens_mem (nextOf l a 8).toNat (by omega)
      rwa [Int.toNat_of_nonneg h1] at this
    · exact ih _ x hx
theorem specT_len (l : List Int) (k : Nat) : ∀ m a us, (specT l k m a us).1.length = m := by
  intro m
  induction m with
  | zero => intro a us; rfl
  | succ m ih =>
    intro a us
    simp only [specT]
    split
    · split
      · split <;> simp [ih]
      · simp [ih]
    · simp [ih]
theorem specT_ok {l : List Int} (h : In64 l) (k : Nat) : ∀ m a us pre, us.length = k → (∀ j : Nat, j < k → us.getD j false = false → (j : Int) ∉ pre) → specGo k pre (specT l k m a us).1 = true := by
  intro m
  induction m with
  | zero => intro a us pre _ _; rfl
  | succ m ih =>
    intro a us pre hl hu
    have none' : ∀ a', specGo k pre (-1 :: (specT l k m a' us).1) = true := by
      intro a'
      simp only [specGo]
      rw [if_neg (by omega), if_neg (by simp)]
      refine ih a' us _ hl fun j hj hf hm => ?_
      rcases List.mem_append.1 hm with hm | hm
      · exact hu j hj hf hm
      · simp at hm
    simp only [specT]
    by_cases hk : 0 < k
    · rw [if_pos hk]
      by_cases hc : nextOf l a 2 = 0
      · rw [if_pos hc]
        obtain ⟨h1, h2⟩ := next_in h (nextAt l a 2) k (by omega)
        generalize nextOf l (nextAt l a 2) k = x at *
        generalize nextAt l (nextAt l a 2) k = a' at *
        obtain ⟨j, rfl⟩ : ∃ j : Nat, x = j := ⟨x.toNat, by omega⟩
        simp only [Int.toNat_natCast]
        have hj : j < k := by omega
        by_cases hus : us.getD j false = true
        · rw [if_pos hus]; exact none' a'
        · rw [if_neg hus]
          have hus' : us.getD j false = false := by simpa using hus
          simp only [specGo]
          rw [if_neg (by omega), if_neg (by rw [contains_iff]; exact fun e => hu j hj hus' e.2)]
          refine ih a' _ _ (by simp [hl]) fun i hi hf hm => ?_
          by_cases hij : j = i
          · subst hij
            simp [List.getD_eq_getElem?_getD, hl, hj] at hf
          · rw [List.getD_eq_getElem?_getD, List.getElem?_set_ne hij] at hf
            rcases List.mem_append.1 hm with hm | hm
            · exact hu i hi (by rw [List.getD_eq_getElem?_getD]; exact hf) hm
            · simp at hm; omega
      · rw [if_neg hc]; exact none' _
    · rw [if_neg hk]; exact none' a
/-! ### the parts of a length -/
/-- How long part c of a length n in k parts is. -/
def cutS (n k c : Int) : Int := w ((cut n k c).2 - (cut n k c).1)
/-- What a device at this place has of a length. -/
def szOf (m at' : List Int) (n k : Int) : Int := if 0 ≤ k then cutS n (nth m k) (nth at' k) else n
def szs (m at' : List Int) : List Int → List Int → List Int
  | n :: s, k :: p => szOf m at' n k :: szs m at' s p
  | _, _ => []
theorem szs_app (m at' : List Int) : ∀ (s p : List Int), s.length = p.length → ∀ a x, szs m at' (s ++ [a]) (p ++ [x]) = szs m at' s p ++ [szOf m at' a x] := by
  intro s
  induction s with
  | nil => intro p h a x; cases p with | nil => rfl | cons _ _ => simp at h
  | cons n s ih =>
    intro p h a x
    cases p with
    | nil => simp at h
    | cons k p => simp [szs, ih p (by simpa using h) a x]
theorem cutsGo_szs (s m at' p : List Int) (hl : s.length = p.length) (hr : ∀ i : Nat, i < s.length → w (nth s i) = nth s i) : ∀ n : Nat, n ≤ p.length → (cutsGo s m at' p n).map (fun q => w (q.2 - q.1)) = szs m at' (s.take n) (p.take n) := by
  intro n
  induction n with
  | zero => intro _; simp [cutsGo, szs]
  | succ n ih =>
    intro hn
    rw [take_nth s n (by omega), take_nth p n (by omega), szs_app _ _ _ _ (by simp; omega), cutsGo, List.map_append, ih (by omega)]
    congr 1
    simp only [List.map_cons, List.map_nil, szOf, cutAt]
    split
    · rfl
    · simp [hr n (by omega)]
theorem szs_len (m at' : List Int) : ∀ (s p : List Int), s.length = p.length → (szs m at' s p).length = s.length := by
  intro s
  induction s with
  | nil => intro p _; rfl
  | cons n s ih =>
    intro p h
    cases p with
    | nil => simp at h
    | cons k p => simp [szs, ih p (by simpa using h)]
theorem lens_rng : ∀ n ∈ lens, 0 ≤ n ∧ n ≤ 7 := by decide
theorem lens_w {s : List Int} (h : ∀ x ∈ s, x ∈ lens) (i : Nat) (hi : i < s.length) : w (nth s i) = nth s i := by
  have hm : nth s i ∈ s := by simp [nth, hi]
  have := lens_rng _ (h _ hm)
  exact w_id (by omega)
theorem sizeL_szs {s m p : List Int} {d : Int} (hs : ∀ x ∈ s, x ∈ lens) (hl : p.length = s.length) (hc : mayCut s m p d) : sizeL s m p d = szs m (meshAt m d) s p := by
  unfold sizeL cutsL
  rw [if_pos hc, cutsGo_szs s m (meshAt m d) p hl.symm (lens_w hs) p.length (Nat.le_refl _)]
  rw [List.take_of_length_le (by omega), List.take_of_length_le (by omega)]
theorem fromL_len' {s m p : List Int} {d : Int} (hl : p.length = s.length) (hc : mayCut s m p d) : (fromL s m p d).length = s.length := by
  unfold fromL cutsL
  rw [if_pos hc, List.length_map, cutsGo_len, hl]
/-! ### what the meshes' parts are -/
def chk (m : List Int) : Bool := (List.range (devs m).toNat).all fun d => lens.all fun n => (List.range m.length).all fun k => decide (0 ≤ szOf m (meshAt m d) n k ∧ szOf m (meshAt m d) n k ≤ szOf m (meshAt m 0) n k ∧ szOf m (meshAt m 0) n k ≤ 7)
theorem chk_six : six.all chk = true := by decide
/- Walks: some of chapter 16's runs. -/
theorem new_len (H : Hp) (cs : List AV) : (H.new cs).bs.length = H.bs.length + 1 := by simp [Hp.new]
theorem new_c (H : Hp) (cs : List AV) : (H.new cs).c = H.c + 1 := rfl
theorem known_devs : devs [2] = 2 := by decide
@[simp] theorem F61_at (n k : Int) (H : Hp) : F61 [.int .i64 n, .int .i64 k] H = some (.int .i64 (width n k)) := rfl
/- Lists in the text, tapes, on the way to a statement that reads a tape. -/
/-! ### what is new here: a struct, a box, lists of lists -/
def bld25 (x : AV) : Option AV := (afill (fun j => ([(0, 22), (1, 3)][j]?).bind fun f => (T f.2).map fun i => (f.1, i.size)) [.nilS, .int .i64 0] [(0, x)]).map .agg
def abox (v : AV) (H : Hp) : Option (AV × Hp) := if v.cells.all AV.one = true then some (.ptr H.bs.length H.c 0, H.new v.cells) else none
theorem aidx26 (v i : AV) : aidx T 26 v i = aidxS 1 v i := by simp [aidx, D26, T22]
section
variable {E : Env} {sh : Bool} {s : Sl} {H : Hp}
@[simp] theorem xdo_build25 (x : Operand) : xdo E T sh (.build 25 #[(0, x)]) s H = (bld25 (ev s x)).map fun v => (v, H) := by
  simp only [xdo, aop, T25, bld25, Option.map_map]
  rfl
@[simp] theorem xdo_box (t : Nat) (x : Operand) : xdo E T sh (.box t x) s H = abox (ev s x) H := rfl
theorem xdo_bs22_1 (a : Int) : xdo E T sh (.buildSlice 22 1 #[(0, .const (.int .i64 a))]) s H = some (.sl H.bs.length H.c 0 1 1 true, H.new ([a].map (.int .i64))) := by
  simp [xdo, aop, D22, T3, rep, afill, setAll, AV.cells, AV.one]
theorem xdo_bs22_2 (a b : Int) : xdo E T sh (.buildSlice 22 2 #[(0, .const (.int .i64 a)), (1, .const (.int .i64 b))]) s H = some (.sl H.bs.length H.c 0 2 1 true, H.new ([a, b].map (.int .i64))) := by
  simp [xdo, aop, D22, T3, rep, afill, setAll, AV.cells, AV.one]
theorem xdo_bs22_3 (a b c : Int) : xdo E T sh (.buildSlice 22 3 #[(0, .const (.int .i64 a)), (1, .const (.int .i64 b)), (2, .const (.int .i64 c))]) s H = some (.sl H.bs.length H.c 0 3 1 true, H.new ([a, b, c].map (.int .i64))) := by
  simp [xdo, aop, D22, T3, rep, afill, setAll, AV.cells, AV.one]
theorem xdo_bs22_0 : xdo E T sh (.buildSlice 22 0 #[]) s H = some (.sl H.bs.length H.c 0 0 1 true, H.new []) := by
  simp [xdo, aop, D22, T3, rep, afill]
end
/-- Lists that stand in the text: the memory after them, and their values. -/
def litH (H : Hp) : List (List Int) → List AV × Hp
  | [] => ([], H)
  | l :: r => (.sl H.bs.length H.c 0 l.length 1 true :: (litH (H.new (l.map (.int .i64))) r).1, (litH (H.new (l.map (.int .i64))) r).2)
theorem litH_ext : ∀ (L : List (List Int)) {H : Hp}, Wf H → Ext H (litH H L).2 := by
  intro L
  induction L with
  | nil => intro H hw; exact Ext.refl hw
  | cons l L ih => intro H hw; exact ((Ext.refl hw).new _).trans (ih (hw.new _))
theorem F18_at {H : Hp} {b ver : Nat} {v sz : AV} {l z : List Int} {a n : Nat} (ht : Tape H b ver v l a) (hz : ints H sz = some z) (hn : n < 1048576) (hzl : z.length < 1048576) (ho : off sz b = true) :
    F18 [.ptr b ver 0, sz, .int .i64 n] H = some (mkF (tapePut H b ver v (specT l z.length n a (List.replicate z.length false)).2) (specT l z.length n a (List.replicate z.length false)).1) := by
  have c : 0 ≤ (n : Int) ∧ (n : Int) < 1048576 ∧ z.length < 1048576 ∧ off sz b = true := ⟨by omega, by omega, hzl, ho⟩
  show (ints H sz).bind _ = _
  rw [hz, Option.bind_some]
  rw [if_pos c, tapeF_at ht, Int.toNat_natCast]
theorem Pre.le {H H1 : Hp} (h : Pre H H1) : H.bs.length ≤ H1.bs.length := by
  rcases Nat.lt_or_ge H1.bs.length H.bs.length with hl | hl
  · have := h _ _ (List.getElem?_eq_getElem hl)
    have := (List.getElem?_eq_some_iff.1 this).1
    omega
  · exact hl
theorem Ext.tapeN {H X : Hp} {b ver : Nat} {v : AV} {l : List Int} {a a' : Nat} (h : Ext H X) (hb : H.bs.length ≤ b) (ht : Tape X b ver v l a) : Ext H (tapePut X b ver v a') := by
  refine ⟨?_, ht.wf h.wf, h.c⟩
  intro i k hi
  have hlt := (List.getElem?_eq_some_iff.1 hi).1
  simp only [tapePut, Hp.put]
  rw [List.getElem?_set_ne (by omega)]
  exact h.pre i k hi
theorem Own.off {H0 H1 : Hp} {b ver : Nat} {v u : AV} {l L : List Int} {a : Nat} (h : Tape H1 b ver v l a) (hver : ver < H0.c) (ho : Own H0 H1 u L) : off u b = true := by
  rcases ho with ⟨_, rfl⟩ | ⟨b2, ver2, rfl, h2, h3, hk⟩
  · rfl
  · have hne : b2 ≠ b := by
      intro e
      subst e
      obtain ⟨g1, g2⟩ := Hp.at_some hk
      obtain ⟨g3, g4⟩ := Hp.at_some h.at'
      rw [g1] at g3
      have e := congrArg Blk.ver (Option.some.inj g3)
      simp only at e
      omega
    simpa [Pq.off] using hne
theorem ints_cell {H : Hp} {v : AV} {l : List Int} (h : ints H v = some l) : bld25 v = some (.agg [v, .int .i64 0]) ∧ v.one = true ∧ off v H.bs.length = true := by
  unfold ints at h
  split at h
  · exact ⟨by simp [bld25, afill, setAll, AV.cells, AV.one, T22], rfl, rfl⟩
  · exact ⟨by simp [bld25, afill, setAll, AV.cells, AV.one, T22], rfl, rfl⟩
  · split at h
    · split at h
      · rename_i hk
        have := (List.getElem?_eq_some_iff.1 (Hp.at_some hk).1).1
        refine ⟨by simp [bld25, afill, setAll, AV.cells, AV.one, T22], rfl, ?_⟩
        simp [Pq.off]; omega
      · cases h
    · cases h
  · cases h
theorem shapeT_le (l : List Int) : ∀ n a, a ≤ l.length → (shapeT l n a).2 ≤ l.length := by
  intro n
  induction n with
  | zero => intro a h; exact h
  | succ n ih => intro a h; exact ih _ (nextAt_le h)
/- Functions in short form. -/
/-! parquetry/parquetryref1.Right (1 parameters; calls none) -/
def A101 : Ann := { live := fun i => if i = 3 then [0, 3, 4] else [], drop := fun i => false }
noncomputable def c101 : Cc :=
  (.seq (.reg false [⟨some 2, (Op.assign (Operand.const (Value.bool false))), none⟩])
  (.seq (.reg false [⟨some 3, (Op.assign (Operand.const (Value.int IntKind.i64 1))), none⟩])
  (.seq (.seq (.reg false [⟨some 4, (Op.assign (Operand.const (Value.int IntKind.i64 0))), none⟩])
  (.block 0 (.loop [0, 3, 4] false
    (.seq (.seq (.reg false [⟨some 5, (Op.move (Operand.tmp 4)), none⟩,
      ⟨some 6, (Op.move (Operand.tmp 0)), none⟩,
      ⟨some 7, (Op.call { callee := (Callee.builtin Builtin.len), args := #[(Operand.tmp 6)], argTypes := #[22] }), none⟩,
      ⟨some 8, (Op.binOp BinOp.lss 3 (Operand.tmp 5) (Operand.tmp 7) 3), none⟩])
    (.cond (Operand.tmp 8)
      .skip
      (.exit 0)))
    (.seq (.block 1 (.seq (.seq (.reg false [⟨some 11, (Op.move (Operand.tmp 0)), none⟩,
      ⟨some 12, (Op.move (Operand.tmp 4)), none⟩,
      ⟨some 13, (Op.indexAddr 22 (Operand.tmp 11) (Operand.tmp 12)), none⟩,
      ⟨some 14, (Op.load 3 (Operand.tmp 13)), none⟩,
      ⟨some 15, (Op.binOp BinOp.lss 3 (Operand.tmp 14) (Operand.const (Value.int IntKind.i64 0)) 3), none⟩,
      ⟨some 16, (Op.move (Operand.tmp 15)), none⟩,
      ⟨some 17, (Op.move (Operand.tmp 0)), some (16, false)⟩,
      ⟨some 18, (Op.move (Operand.tmp 4)), some (16, false)⟩,
      ⟨some 19, (Op.indexAddr 22 (Operand.tmp 17) (Operand.tmp 18)), some (16, false)⟩,
      ⟨some 20, (Op.load 3 (Operand.tmp 19)), some (16, false)⟩,
      ⟨some 21, (Op.binOp BinOp.gtr 3 (Operand.tmp 20) (Operand.const (Value.int IntKind.i64 32)) 3), some (16, false)⟩,
      ⟨some 22, (Op.pick (Operand.tmp 16) (Operand.const (Value.bool true)) (Operand.tmp 21)), none⟩,
      ⟨some 23, (Op.move (Operand.tmp 22)), none⟩,
      ⟨some 24, (Op.move (Operand.tmp 4)), some (23, false)⟩,
      ⟨some 25, (Op.binOp BinOp.geq 3 (Operand.tmp 24) (Operand.const (Value.int IntKind.i64 4)) 3), some (23, false)⟩,
      ⟨some 26, (Op.pick (Operand.tmp 23) (Operand.const (Value.bool true)) (Operand.tmp 25)), none⟩])
    (.cond (Operand.tmp 26)
      (.seq (.reg false [⟨some 2, (Op.assign (Operand.const (Value.bool false))), none⟩])
      .ret)
      .skip))
    (.reg false [⟨some 27, (Op.move (Operand.tmp 3)), none⟩,
      ⟨some 28, (Op.move (Operand.tmp 0)), none⟩,
      ⟨some 29, (Op.move (Operand.tmp 4)), none⟩,
      ⟨some 30, (Op.indexAddr 22 (Operand.tmp 28) (Operand.tmp 29)), none⟩,
      ⟨some 31, (Op.load 3 (Operand.tmp 30)), none⟩,
      ⟨some 32, (Op.binOp BinOp.mul 3 (Operand.tmp 27) (Operand.tmp 31) 3), none⟩,
      ⟨some 3, (Op.assign (Operand.tmp 32)), none⟩])))
    (.reg false [⟨some 9, (Op.move (Operand.tmp 4)), none⟩,
      ⟨some 10, (Op.binOp BinOp.add 3 (Operand.tmp 9) (Operand.const (Value.int IntKind.i64 1)) 3), none⟩,
      ⟨some 4, (Op.assign (Operand.tmp 10)), none⟩]))))))
  (.seq (.reg false [⟨some 33, (Op.move (Operand.tmp 3)), none⟩,
    ⟨some 34, (Op.binOp BinOp.leq 3 (Operand.tmp 33) (Operand.const (Value.int IntKind.i64 4096)) 3), none⟩,
    ⟨some 2, (Op.assign (Operand.tmp 34)), none⟩])
  .ret))))
noncomputable def b101 : Code := Try.f101.body.getD .skip
theorem hb101 : Try.f101.body = some b101 := by kernel_rfl
theorem sh101 : shortC A101 b101 = c101 := by kernel_rfl
def rs101 : List ResultVar := [(ResultVar.tmp 2)]
theorem hr101 : Try.f101.results.toList = rs101 := by kernel_rfl
/-! parquetry/parquetryref1.Size (1 parameters; calls 101 parquetry/parquetryref1.Right) -/
def A100 : Ann := { live := fun i => if i = 5 then [0, 3, 4] else [], drop := fun i => false }
noncomputable def c100 : Cc :=
  (.seq (.reg false [⟨some 2, (Op.assign (Operand.const (Value.int IntKind.i64 0))), none⟩])
  (.seq (.seq (.reg false [⟨some 5, (Op.move (Operand.tmp 0)), none⟩,
    ⟨some 6, (Op.call { callee := (Callee.value (Operand.func 101)), args := #[(Operand.tmp 5)], argTypes := #[22] }), none⟩,
    ⟨some 7, (Op.unOp UnOp.not 4 (Operand.tmp 6)), none⟩])
  (.cond (Operand.tmp 7)
    (.seq (.reg false [⟨some 2, (Op.assign (Operand.const (Value.int IntKind.i64 0))), none⟩])
    .ret)
    .skip))
  (.seq (.reg false [⟨some 3, (Op.assign (Operand.const (Value.int IntKind.i64 1))), none⟩])
  (.seq (.seq (.reg false [⟨some 4, (Op.assign (Operand.const (Value.int IntKind.i64 0))), none⟩])
  (.block 0 (.loop [0, 3, 4] false
    (.seq (.seq (.reg false [⟨some 8, (Op.move (Operand.tmp 4)), none⟩,
      ⟨some 9, (Op.move (Operand.tmp 0)), none⟩,
      ⟨some 10, (Op.call { callee := (Callee.builtin Builtin.len), args := #[(Operand.tmp 9)], argTypes := #[22] }), none⟩,
      ⟨some 11, (Op.binOp BinOp.lss 3 (Operand.tmp 8) (Operand.tmp 10) 3), none⟩])
    (.cond (Operand.tmp 11)
      .skip
      (.exit 0)))
    (.seq (.block 1 (.reg false [⟨some 14, (Op.move (Operand.tmp 3)), none⟩,
      ⟨some 15, (Op.move (Operand.tmp 0)), none⟩,
      ⟨some 16, (Op.move (Operand.tmp 4)), none⟩,
      ⟨some 17, (Op.indexAddr 22 (Operand.tmp 15) (Operand.tmp 16)), none⟩,
      ⟨some 18, (Op.load 3 (Operand.tmp 17)), none⟩,
      ⟨some 19, (Op.binOp BinOp.mul 3 (Operand.tmp 14) (Operand.tmp 18) 3), none⟩,
      ⟨some 3, (Op.assign (Operand.tmp 19)), none⟩]))
    (.reg false [⟨some 12, (Op.move (Operand.tmp 4)), none⟩,
      ⟨some 13, (Op.binOp BinOp.add 3 (Operand.tmp 12) (Operand.const (Value.int IntKind.i64 1)) 3), none⟩,
      ⟨some 4, (Op.assign (Operand.tmp 13)), none⟩]))))))
  (.seq (.reg false [⟨some 20, (Op.move (Operand.tmp 3)), none⟩,
    ⟨some 2, (Op.assign (Operand.tmp 20)), none⟩])
  .ret)))))
noncomputable def b100 : Code := Try.f100.body.getD .skip
theorem hb100 : Try.f100.body = some b100 := by kernel_rfl
theorem sh100 : shortC A100 b100 = c100 := by kernel_rfl
def rs100 : List ResultVar := [(ResultVar.tmp 2)]
theorem hr100 : Try.f100.results.toList = rs100 := by kernel_rfl
/-! parquetry/parquetryref1.Fill (2 parameters; calls 100 parquetry/parquetryref1.Size) -/
def A70 : Ann := { live := fun i => if i = 3 then [0, 1, 4, 5, 6] else [], drop := fun i => false }
noncomputable def c70 : Cc :=
  (.seq (.reg false [⟨some 4, (Op.alloc 40), none⟩])
  (.seq (.reg false [⟨some 7, (Op.buildSlice 22 0 #[]), none⟩,
    ⟨some 8, (Op.move (Operand.tmp 0)), none⟩,
    ⟨some 9, (Op.call { callee := (Callee.builtin Builtin.append), args := #[(Operand.tmp 7), (Operand.tmp 8)], argTypes := #[22, 22] }), none⟩,
    ⟨some 10, (Op.build 40 #[(0, (Operand.tmp 9))]), none⟩,
    ⟨some 5, (Op.alloc 40), none⟩,
    ⟨none, (Op.store 40 (Operand.tmp 5) (Operand.tmp 10)), none⟩])
  (.seq (.seq (.reg false [⟨some 6, (Op.assign (Operand.const (Value.int IntKind.i64 0))), none⟩])
  (.block 0 (.loop [0, 1, 4, 5, 6] false
    (.seq (.seq (.reg false [⟨some 11, (Op.move (Operand.tmp 6)), none⟩,
      ⟨some 12, (Op.move (Operand.tmp 0)), none⟩,
      ⟨some 13, (Op.call { callee := (Callee.value (Operand.func 100)), args := #[(Operand.tmp 12)], argTypes := #[22] }), none⟩,
      ⟨some 14, (Op.binOp BinOp.lss 3 (Operand.tmp 11) (Operand.tmp 13) 3), none⟩])
    (.cond (Operand.tmp 14)
      .skip
      (.exit 0)))
    (.seq (.block 1 (.reg false [⟨some 17, (Op.fieldAddr 40 (Operand.tmp 5) 1), none⟩,
      ⟨some 18, (Op.load 38 (Operand.tmp 17)), none⟩,
      ⟨some 19, (Op.move (Operand.tmp 1)), none⟩,
      ⟨some 20, (Op.buildSlice 38 1 #[(0, (Operand.tmp 19))]), none⟩,
      ⟨some 21, (Op.call { callee := (Callee.builtin Builtin.append), args := #[(Operand.tmp 18), (Operand.tmp 20)], argTypes := #[38, 38] }), none⟩,
      ⟨some 22, (Op.fieldAddr 40 (Operand.tmp 5) 1), none⟩,
      ⟨none, (Op.store 38 (Operand.tmp 22) (Operand.tmp 21)), none⟩]))
    (.reg false [⟨some 15, (Op.move (Operand.tmp 6)), none⟩,
      ⟨some 16, (Op.binOp BinOp.add 3 (Operand.tmp 15) (Operand.const (Value.int IntKind.i64 1)) 3), none⟩,
      ⟨some 6, (Op.assign (Operand.tmp 16)), none⟩]))))))
  (.seq (.reg false [⟨some 23, (Op.load 40 (Operand.tmp 5)), none⟩,
    ⟨none, (Op.store 40 (Operand.tmp 4) (Operand.tmp 23)), none⟩])
  .ret))))
noncomputable def b70 : Code := Try.f70.body.getD .skip
theorem hb70 : Try.f70.body = some b70 := by kernel_rfl
theorem sh70 : shortC A70 b70 = c70 := by kernel_rfl
def rs70 : List ResultVar := [(ResultVar.cell 4 40)]
theorem hr70 : Try.f70.results.toList = rs70 := by kernel_rfl
/-! (*parquetry/parquetrykeep.Tape).Number (1 parameters; calls 16 (*parquetry/parquetrykeep.Tape).Next) -/
def A133 : Ann := { drop := fun i => false }
noncomputable def c133 : Cc :=
  (.seq (.reg false [⟨some 2, (Op.assign (Operand.const (Value.int IntKind.i64 0))), none⟩])
  (.seq (.seq (.reg false [⟨some 3, (Op.move (Operand.tmp 0)), none⟩,
    ⟨some 4, (Op.call { callee := (Callee.value (Operand.func 16)), args := #[(Operand.tmp 3), (Operand.const (Value.int IntKind.i64 9))], argTypes := #[23, 3] }), none⟩])
  (.block 0 (.seq (.reg false [⟨some 6, (Op.binOp BinOp.eql 3 (Operand.tmp 4) (Operand.const (Value.int IntKind.i64 0)) 3), none⟩,
    ⟨some 5, (Op.assign (Operand.tmp 6)), none⟩])
  (.cond (Operand.tmp 5)
    (.seq (.reg false [⟨some 7, (Op.buildSlice 38 6 #[(0, (Operand.const (Value.int IntKind.i64 9223372036854775807))), (1, (Operand.const (Value.int IntKind.i64 (-9223372036854775808)))), (2, (Operand.const (Value.int IntKind.i64 4611686018427387904))), (3, (Operand.const (Value.int IntKind.i64 (-1099511627776)))), (4, (Operand.const (Value.int IntKind.i64 8589934592))), (5, (Operand.const (Value.int IntKind.i64 3037000500)))]), none⟩,
      ⟨some 8, (Op.move (Operand.tmp 0)), none⟩,
      ⟨some 9, (Op.call { callee := (Callee.value (Operand.func 16)), args := #[(Operand.tmp 8), (Operand.const (Value.int IntKind.i64 6))], argTypes := #[23, 3] }), none⟩,
      ⟨some 10, (Op.indexAddr 38 (Operand.tmp 7) (Operand.tmp 9)), none⟩,
      ⟨some 11, (Op.load 2 (Operand.tmp 10)), none⟩,
      ⟨some 2, (Op.assign (Operand.tmp 11)), none⟩])
    .ret)
    (.seq (.reg false [⟨some 13, (Op.binOp BinOp.eql 3 (Operand.tmp 4) (Operand.const (Value.int IntKind.i64 1)) 3), none⟩,
      ⟨some 12, (Op.assign (Operand.tmp 13)), none⟩])
    (.cond (Operand.tmp 12)
      (.seq (.reg false [⟨some 2, (Op.assign (Operand.const (Value.int IntKind.i64 0))), none⟩])
      .ret)
      .skip))))))
  (.seq (.reg false [⟨some 14, (Op.move (Operand.tmp 0)), none⟩,
    ⟨some 15, (Op.call { callee := (Callee.value (Operand.func 16)), args := #[(Operand.tmp 14), (Operand.const (Value.int IntKind.i64 19))], argTypes := #[23, 3] }), none⟩,
    ⟨some 16, (Op.binOp BinOp.sub 2 (Operand.tmp 15) (Operand.const (Value.int IntKind.i64 9)) 2), none⟩,
    ⟨some 2, (Op.assign (Operand.tmp 16)), none⟩])
  .ret)))
noncomputable def b133 : Code := Try.f133.body.getD .skip
theorem hb133 : Try.f133.body = some b133 := by kernel_rfl
theorem sh133 : shortC A133 b133 = c133 := by kernel_rfl
def rs133 : List ResultVar := [(ResultVar.tmp 2)]
theorem hr133 : Try.f133.results.toList = rs133 := by kernel_rfl
/-! (*parquetry/parquetrykeep.Tape).Tensor (2 parameters; calls 70 parquetry/parquetryref1.Fill, 133 (*parquetry/parquetrykeep.Tape).Number) -/
def A80 : Ann := { recs := fun i => if i = 5 then [(0, 5), (1, 5), (2, 5)] else [], live := fun i => if i = 3 then [0, 4, 5, 11, 12] else [], drop := fun i => false }
noncomputable def c80 : Cc :=
  (.seq (.reg false [⟨some 4, (Op.alloc 40), none⟩])
  (.seq (.reg false [⟨some 7, (Op.move (Operand.tmp 1)), none⟩,
    ⟨some 8, (Op.call { callee := (Callee.value (Operand.func 70)), args := #[(Operand.tmp 7), (Operand.const (Value.int IntKind.i64 0))], argTypes := #[22, 2] }), none⟩,
    ⟨some 5, (Op.alloc 40), none⟩,
    ⟨none, (Op.store 40 (Operand.tmp 5) (Operand.tmp 8)), none⟩])
  (.seq (.seq (.reg false [⟨some 9, (Op.fieldAddr 40 (Operand.tmp 5) 1), none⟩,
    ⟨some 10, (Op.load 38 (Operand.tmp 9)), none⟩,
    ⟨some 11, (Op.call { callee := (Callee.builtin Builtin.len), args := #[(Operand.tmp 10)], argTypes := #[38] }), none⟩,
    ⟨some 12, (Op.move (Operand.const (Value.int IntKind.i64 0))), none⟩])
  (.block 0 (.loop [0, 4, 5, 11, 12] false
    (.seq (.reg false [⟨some 13, (Op.binOp BinOp.lss 3 (Operand.tmp 12) (Operand.tmp 11) 3), none⟩])
    (.seq (.cond (Operand.tmp 13)
      .skip
      (.exit 0))
    (.seq (.block 1 (.seq (.reg false [⟨some 14, (Op.move (Operand.tmp 12)), none⟩,
      ⟨some 6, (Op.assign (Operand.tmp 14)), none⟩])
    (.drw false [⟨some 15, (Op.fieldAddr 40 (Operand.tmp 5) 1), none⟩,
      ⟨some 16, (Op.load 38 (Operand.tmp 15)), none⟩,
      ⟨some 17, (Op.move (Operand.tmp 6)), none⟩,
      ⟨some 18, (Op.move (Operand.tmp 0)), none⟩,
      ⟨some 19, (Op.call { callee := (Callee.value (Operand.func 133)), args := #[(Operand.tmp 18)], argTypes := #[23] }), none⟩,
      ⟨some 20, (Op.indexAddr 38 (Operand.tmp 16) (Operand.tmp 17)), none⟩,
      ⟨none, (Op.store 2 (Operand.tmp 20) (Operand.tmp 19)), none⟩] [(1, 5)])))
    (.reg false [⟨some 21, (Op.binOp BinOp.add 3 (Operand.tmp 12) (Operand.const (Value.int IntKind.i64 1)) 3), none⟩,
      ⟨some 12, (Op.move (Operand.tmp 21)), none⟩])))))))
  (.seq (.reg false [⟨some 22, (Op.load 40 (Operand.tmp 5)), none⟩,
    ⟨none, (Op.store 40 (Operand.tmp 4) (Operand.tmp 22)), none⟩])
  .ret))))
noncomputable def b80 : Code := Try.f80.body.getD .skip
theorem hb80 : Try.f80.body = some b80 := by kernel_rfl
theorem sh80 : shortC A80 b80 = c80 := by kernel_rfl
def rs80 : List ResultVar := [(ResultVar.cell 4 40)]
theorem hr80 : Try.f80.results.toList = rs80 := by kernel_rfl
/-! parquetry/shape.Size (1 parameters; calls 90 parquetry/shape.Right) -/
def A136 : Ann := { live := fun i => if i = 5 then [3, 9, 10, 11] else [], drop := fun i => false }
noncomputable def c136 : Cc :=
  (.seq (.reg false [⟨some 2, (Op.assign (Operand.const (Value.int IntKind.i64 0))), none⟩])
  (.seq (.seq (.reg false [⟨some 6, (Op.move (Operand.tmp 0)), none⟩,
    ⟨some 7, (Op.call { callee := (Callee.value (Operand.func 90)), args := #[(Operand.tmp 6)], argTypes := #[22] }), none⟩,
    ⟨some 8, (Op.unOp UnOp.not 4 (Operand.tmp 7)), none⟩])
  (.cond (Operand.tmp 8)
    (.seq (.reg false [⟨some 2, (Op.assign (Operand.const (Value.int IntKind.i64 0))), none⟩])
    .ret)
    .skip))
  (.seq (.reg false [⟨some 3, (Op.assign (Operand.const (Value.int IntKind.i64 1))), none⟩])
  (.seq (.seq (.reg false [⟨some 9, (Op.move (Operand.tmp 0)), none⟩,
    ⟨some 10, (Op.call { callee := (Callee.builtin Builtin.len), args := #[(Operand.tmp 9)], argTypes := #[22] }), none⟩,
    ⟨some 11, (Op.move (Operand.const (Value.int IntKind.i64 0))), none⟩])
  (.block 0 (.loop [3, 9, 10, 11] false
    (.seq (.reg false [⟨some 12, (Op.binOp BinOp.lss 3 (Operand.tmp 11) (Operand.tmp 10) 3), none⟩])
    (.seq (.cond (Operand.tmp 12)
      .skip
      (.exit 0))
    (.seq (.block 1 (.seq (.reg false [⟨some 13, (Op.indexAddr 22 (Operand.tmp 9) (Operand.tmp 11)), none⟩,
      ⟨some 14, (Op.load 3 (Operand.tmp 13)), none⟩,
      ⟨some 5, (Op.assign (Operand.tmp 14)), none⟩])
    (.reg false [⟨some 15, (Op.move (Operand.tmp 3)), none⟩,
      ⟨some 16, (Op.move (Operand.tmp 5)), none⟩,
      ⟨some 17, (Op.binOp BinOp.mul 3 (Operand.tmp 15) (Operand.tmp 16) 3), none⟩,
      ⟨some 3, (Op.assign (Operand.tmp 17)), none⟩])))
    (.reg false [⟨some 18, (Op.binOp BinOp.add 3 (Operand.tmp 11) (Operand.const (Value.int IntKind.i64 1)) 3), none⟩,
      ⟨some 11, (Op.move (Operand.tmp 18)), none⟩])))))))
  (.seq (.reg false [⟨some 19, (Op.move (Operand.tmp 3)), none⟩,
    ⟨some 2, (Op.assign (Operand.tmp 19)), none⟩])
  .ret)))))
noncomputable def b136 : Code := Try.f136.body.getD .skip
theorem hb136 : Try.f136.body = some b136 := by kernel_rfl
theorem sh136 : shortC A136 b136 = c136 := by kernel_rfl
def rs136 : List ResultVar := [(ResultVar.tmp 2)]
theorem hr136 : Try.f136.results.toList = rs136 := by kernel_rfl
/-! parquetry/tensor.Right (1 parameters; calls 90 parquetry/shape.Right, 136 parquetry/shape.Size) -/
def A91 : Ann := { drop := fun i => false }
noncomputable def c91 : Cc :=
  (.seq (.reg false [⟨some 1, (Op.box 40 (Operand.tmp 0)), none⟩,
    ⟨some 2, (Op.assign (Operand.const (Value.bool false))), none⟩])
  (.seq (.reg false [⟨some 3, (Op.fieldAddr 40 (Operand.tmp 1) 0), none⟩,
    ⟨some 4, (Op.load 22 (Operand.tmp 3)), none⟩,
    ⟨some 5, (Op.call { callee := (Callee.value (Operand.func 90)), args := #[(Operand.tmp 4)], argTypes := #[22] }), none⟩,
    ⟨some 6, (Op.move (Operand.tmp 5)), none⟩,
    ⟨some 7, (Op.fieldAddr 40 (Operand.tmp 1) 1), some (6, true)⟩,
    ⟨some 8, (Op.load 38 (Operand.tmp 7)), some (6, true)⟩,
    ⟨some 9, (Op.call { callee := (Callee.builtin Builtin.len), args := #[(Operand.tmp 8)], argTypes := #[38] }), some (6, true)⟩,
    ⟨some 10, (Op.fieldAddr 40 (Operand.tmp 1) 0), some (6, true)⟩,
    ⟨some 11, (Op.load 22 (Operand.tmp 10)), some (6, true)⟩,
    ⟨some 12, (Op.call { callee := (Callee.value (Operand.func 136)), args := #[(Operand.tmp 11)], argTypes := #[22] }), some (6, true)⟩,
    ⟨some 13, (Op.binOp BinOp.eql 3 (Operand.tmp 9) (Operand.tmp 12) 3), some (6, true)⟩,
    ⟨some 14, (Op.pick (Operand.tmp 6) (Operand.tmp 13) (Operand.const (Value.bool false))), none⟩,
    ⟨some 2, (Op.assign (Operand.tmp 14)), none⟩])
  .ret))
noncomputable def b91 : Code := Try.f91.body.getD .skip
theorem hb91 : Try.f91.body = some b91 := by kernel_rfl
theorem sh91 : shortC A91 b91 = c91 := by kernel_rfl
def rs91 : List ResultVar := [(ResultVar.tmp 2)]
theorem hr91 : Try.f91.results.toList = rs91 := by kernel_rfl
/-! parquetry/shape.Place (2 parameters; calls 136 parquetry/shape.Size) -/
def A95 : Ann := { live := fun i => if i = 5 then [0, 1, 5, 6] else [], drop := fun i => false }
noncomputable def c95 : Cc :=
  (.seq (.reg false [⟨some 4, (Op.assign (Operand.const (Value.slice none 0 0))), none⟩])
  (.seq (.seq (.reg false [⟨some 7, (Op.move (Operand.tmp 1)), none⟩,
    ⟨some 8, (Op.binOp BinOp.lss 3 (Operand.tmp 7) (Operand.const (Value.int IntKind.i64 0)) 3), none⟩,
    ⟨some 9, (Op.move (Operand.tmp 8)), none⟩,
    ⟨some 10, (Op.move (Operand.tmp 1)), some (9, false)⟩,
    ⟨some 11, (Op.move (Operand.tmp 0)), some (9, false)⟩,
    ⟨some 12, (Op.call { callee := (Callee.value (Operand.func 136)), args := #[(Operand.tmp 11)], argTypes := #[22] }), some (9, false)⟩,
    ⟨some 13, (Op.binOp BinOp.geq 3 (Operand.tmp 10) (Operand.tmp 12) 3), some (9, false)⟩,
    ⟨some 14, (Op.pick (Operand.tmp 9) (Operand.const (Value.bool true)) (Operand.tmp 13)), none⟩])
  (.cond (Operand.tmp 14)
    (.seq (.reg false [⟨some 4, (Op.assign (Operand.const (Value.slice none 0 0))), none⟩])
    .ret)
    .skip))
  (.seq (.reg false [⟨some 15, (Op.move (Operand.tmp 0)), none⟩,
    ⟨some 16, (Op.call { callee := (Callee.builtin Builtin.len), args := #[(Operand.tmp 15)], argTypes := #[22] }), none⟩,
    ⟨some 17, (Op.makeSlice 22 (Operand.tmp 16) (Operand.tmp 16)), none⟩,
    ⟨some 5, (Op.assign (Operand.tmp 17)), none⟩])
  (.seq (.seq (.reg false [⟨some 18, (Op.move (Operand.tmp 0)), none⟩,
    ⟨some 19, (Op.call { callee := (Callee.builtin Builtin.len), args := #[(Operand.tmp 18)], argTypes := #[22] }), none⟩,
    ⟨some 20, (Op.binOp BinOp.sub 3 (Operand.tmp 19) (Operand.const (Value.int IntKind.i64 1)) 3), none⟩,
    ⟨some 6, (Op.assign (Operand.tmp 20)), none⟩])
  (.block 0 (.loop [0, 1, 5, 6] false
    (.seq (.seq (.reg false [⟨some 21, (Op.move (Operand.tmp 6)), none⟩,
      ⟨some 22, (Op.binOp BinOp.geq 3 (Operand.tmp 21) (Operand.const (Value.int IntKind.i64 0)) 3), none⟩])
    (.cond (Operand.tmp 22)
      .skip
      (.exit 0)))
    (.seq (.block 1 (.seq (.reg false [⟨some 25, (Op.move (Operand.tmp 5)), none⟩,
      ⟨some 26, (Op.move (Operand.tmp 6)), none⟩,
      ⟨some 27, (Op.move (Operand.tmp 1)), none⟩,
      ⟨some 28, (Op.move (Operand.tmp 0)), none⟩,
      ⟨some 29, (Op.move (Operand.tmp 6)), none⟩,
      ⟨some 30, (Op.indexAddr 22 (Operand.tmp 28) (Operand.tmp 29)), none⟩,
      ⟨some 31, (Op.load 3 (Operand.tmp 30)), none⟩,
      ⟨some 32, (Op.binOp BinOp.rem 3 (Operand.tmp 27) (Operand.tmp 31) 3), none⟩,
      ⟨some 33, (Op.indexAddr 22 (Operand.tmp 25) (Operand.tmp 26)), none⟩,
      ⟨none, (Op.store 3 (Operand.tmp 33) (Operand.tmp 32)), none⟩])
    (.reg false [⟨some 34, (Op.move (Operand.tmp 1)), none⟩,
      ⟨some 35, (Op.move (Operand.tmp 0)), none⟩,
      ⟨some 36, (Op.move (Operand.tmp 6)), none⟩,
      ⟨some 37, (Op.indexAddr 22 (Operand.tmp 35) (Operand.tmp 36)), none⟩,
      ⟨some 38, (Op.load 3 (Operand.tmp 37)), none⟩,
      ⟨some 39, (Op.binOp BinOp.quo 3 (Operand.tmp 34) (Operand.tmp 38) 3), none⟩,
      ⟨some 1, (Op.assign (Operand.tmp 39)), none⟩])))
    (.reg false [⟨some 23, (Op.move (Operand.tmp 6)), none⟩,
      ⟨some 24, (Op.binOp BinOp.sub 3 (Operand.tmp 23) (Operand.const (Value.int IntKind.i64 1)) 3), none⟩,
      ⟨some 6, (Op.assign (Operand.tmp 24)), none⟩]))))))
  (.seq (.reg false [⟨some 40, (Op.move (Operand.tmp 5)), none⟩,
    ⟨some 4, (Op.assign (Operand.tmp 40)), none⟩])
  .ret)))))
noncomputable def b95 : Code := Try.f95.body.getD .skip
theorem hb95 : Try.f95.body = some b95 := by kernel_rfl
theorem sh95 : shortC A95 b95 = c95 := by kernel_rfl
def rs95 : List ResultVar := [(ResultVar.tmp 4)]
theorem hr95 : Try.f95.results.toList = rs95 := by kernel_rfl
/-! slices.Clone[[]int,int] (1 parameters; calls none) -/
def A103 : Ann := { drop := fun i => false }
noncomputable def c103 : Cc :=
  (.seq (.reg false [⟨some 2, (Op.assign (Operand.const (Value.slice none 0 0))), none⟩])
  (.seq (.seq (.reg false [⟨some 3, (Op.move (Operand.tmp 0)), none⟩,
    ⟨some 4, (Op.binOp BinOp.eql 22 (Operand.tmp 3) (Operand.const (Value.slice none 0 0)) 22), none⟩])
  (.cond (Operand.tmp 4)
    (.seq (.reg false [⟨some 2, (Op.assign (Operand.const (Value.slice none 0 0))), none⟩])
    .ret)
    .skip))
  (.seq (.reg false [⟨some 5, (Op.buildSlice 22 0 #[]), none⟩,
    ⟨some 6, (Op.move (Operand.tmp 0)), none⟩,
    ⟨some 7, (Op.call { callee := (Callee.builtin Builtin.append), args := #[(Operand.tmp 5), (Operand.tmp 6)], argTypes := #[22, 22] }), none⟩,
    ⟨some 2, (Op.assign (Operand.tmp 7)), none⟩])
  .ret)))
noncomputable def b103 : Code := Try.f103.body.getD .skip
theorem hb103 : Try.f103.body = some b103 := by kernel_rfl
theorem sh103 : shortC A103 b103 = c103 := by kernel_rfl
def rs103 : List ResultVar := [(ResultVar.tmp 2)]
theorem hr103 : Try.f103.results.toList = rs103 := by kernel_rfl
/-! parquetry/tensor.Fill$1 (1 parameters; calls none) -/
def A139 : Ann := { drop := fun i => false }
noncomputable def c139 : Cc :=
  (.seq (.reg false [⟨some 3, (Op.assign (Operand.const (Value.int IntKind.i64 0))), none⟩])
  (.seq (.reg false [⟨some 4, (Op.load 2 (Operand.tmp 1)), none⟩,
    ⟨some 3, (Op.assign (Operand.tmp 4)), none⟩])
  .ret))
noncomputable def b139 : Code := Try.f139.body.getD .skip
theorem hb139 : Try.f139.body = some b139 := by kernel_rfl
theorem sh139 : shortC A139 b139 = c139 := by kernel_rfl
def rs139 : List ResultVar := [(ResultVar.tmp 3)]
theorem hr139 : Try.f139.results.toList = rs139 := by kernel_rfl
/-! parquetry/tensor.Made (2 parameters; calls 95 parquetry/shape.Place, 103 slices.Clone[[]int,int], 136 parquetry/shape.Size) -/
def A138 : Ann := { recs := fun i => if i = 5 then [(0, 7), (0, 8), (1, 7), (1, 8), (2, 7), (2, 8), (3, 7)] else [], live := fun i => if i = 3 then [0, 1, 4, 5, 15, 16] else [], drop := fun i => false }
noncomputable def c138 : Cc :=
  (.seq (.reg false [⟨some 4, (Op.alloc 40), none⟩])
  (.seq (.reg false [⟨some 7, (Op.move (Operand.tmp 0)), none⟩,
    ⟨some 8, (Op.call { callee := (Callee.value (Operand.func 103)), args := #[(Operand.tmp 7)], argTypes := #[22] }), none⟩,
    ⟨some 9, (Op.move (Operand.tmp 0)), none⟩,
    ⟨some 10, (Op.call { callee := (Callee.value (Operand.func 136)), args := #[(Operand.tmp 9)], argTypes := #[22] }), none⟩,
    ⟨some 11, (Op.makeSlice 38 (Operand.tmp 10) (Operand.tmp 10)), none⟩,
    ⟨some 12, (Op.build 40 #[(0, (Operand.tmp 8)), (1, (Operand.tmp 11))]), none⟩,
    ⟨some 5, (Op.alloc 40), none⟩,
    ⟨none, (Op.store 40 (Operand.tmp 5) (Operand.tmp 12)), none⟩])
  (.seq (.seq (.reg false [⟨some 13, (Op.fieldAddr 40 (Operand.tmp 5) 1), none⟩,
    ⟨some 14, (Op.load 38 (Operand.tmp 13)), none⟩,
    ⟨some 15, (Op.call { callee := (Callee.builtin Builtin.len), args := #[(Operand.tmp 14)], argTypes := #[38] }), none⟩,
    ⟨some 16, (Op.move (Operand.const (Value.int IntKind.i64 0))), none⟩])
  (.block 0 (.loop [0, 1, 4, 5, 15, 16] false
    (.seq (.reg false [⟨some 17, (Op.binOp BinOp.lss 3 (Operand.tmp 16) (Operand.tmp 15) 3), none⟩])
    (.seq (.cond (Operand.tmp 17)
      .skip
      (.exit 0))
    (.seq (.block 1 (.seq (.reg false [⟨some 18, (Op.move (Operand.tmp 16)), none⟩,
      ⟨some 6, (Op.assign (Operand.tmp 18)), none⟩])
    (.drw false [⟨some 19, (Op.fieldAddr 40 (Operand.tmp 5) 1), none⟩,
      ⟨some 20, (Op.load 38 (Operand.tmp 19)), none⟩,
      ⟨some 21, (Op.move (Operand.tmp 6)), none⟩,
      ⟨some 22, (Op.move (Operand.tmp 1)), none⟩,
      ⟨some 23, (Op.move (Operand.tmp 0)), none⟩,
      ⟨some 24, (Op.move (Operand.tmp 6)), none⟩,
      ⟨some 25, (Op.call { callee := (Callee.value (Operand.func 95)), args := #[(Operand.tmp 23), (Operand.tmp 24)], argTypes := #[22, 3] }), none⟩,
      ⟨some 26, (Op.call { callee := (Callee.value (Operand.tmp 22)), args := #[(Operand.tmp 25)], argTypes := #[22] }), none⟩,
      ⟨some 27, (Op.indexAddr 38 (Operand.tmp 20) (Operand.tmp 21)), none⟩,
      ⟨none, (Op.store 2 (Operand.tmp 27) (Operand.tmp 26)), none⟩] [(1, 7), (1, 8)])))
    (.reg false [⟨some 28, (Op.binOp BinOp.add 3 (Operand.tmp 16) (Operand.const (Value.int IntKind.i64 1)) 3), none⟩,
      ⟨some 16, (Op.move (Operand.tmp 28)), none⟩])))))))
  (.seq (.reg false [⟨some 29, (Op.load 40 (Operand.tmp 5)), none⟩,
    ⟨none, (Op.store 40 (Operand.tmp 4) (Operand.tmp 29)), none⟩])
  .ret))))
noncomputable def b138 : Code := Try.f138.body.getD .skip
theorem hb138 : Try.f138.body = some b138 := by kernel_rfl
theorem sh138 : shortC A138 b138 = c138 := by kernel_rfl
def rs138 : List ResultVar := [(ResultVar.cell 4 40)]
theorem hr138 : Try.f138.results.toList = rs138 := by kernel_rfl
/-! parquetry/tensor.Fill (2 parameters; calls 90 parquetry/shape.Right, 138 parquetry/tensor.Made) -/
def A94 : Ann := { drop := fun i => false }
noncomputable def c94 : Cc :=
  (.seq (.reg false [⟨some 3, (Op.box 2 (Operand.tmp 1)), none⟩,
    ⟨some 4, (Op.alloc 40), none⟩,
    ⟨some 5, (Op.assign (Operand.const (Value.int IntKind.i64 0))), none⟩])
  (.seq (.seq (.reg false [⟨some 6, (Op.move (Operand.tmp 0)), none⟩,
    ⟨some 7, (Op.call { callee := (Callee.value (Operand.func 90)), args := #[(Operand.tmp 6)], argTypes := #[22] }), none⟩,
    ⟨some 8, (Op.unOp UnOp.not 4 (Operand.tmp 7)), none⟩])
  (.cond (Operand.tmp 8)
    (.seq (.reg false [⟨some 9, (Op.build 40 #[]), none⟩,
      ⟨none, (Op.store 40 (Operand.tmp 4) (Operand.tmp 9)), none⟩,
      ⟨some 5, (Op.assign (Operand.const (Value.int IntKind.i64 13))), none⟩])
    .ret)
    .skip))
  (.seq (.reg false [⟨some 10, (Op.move (Operand.tmp 0)), none⟩,
    ⟨some 11, (Op.makeFunc (Fn.func 139) #[] #[(Operand.tmp 3)]), none⟩,
    ⟨some 12, (Op.call { callee := (Callee.value (Operand.func 138)), args := #[(Operand.tmp 10), (Operand.tmp 11)], argTypes := #[22, 147] }), none⟩,
    ⟨none, (Op.store 40 (Operand.tmp 4) (Operand.tmp 12)), none⟩,
    ⟨some 5, (Op.assign (Operand.const (Value.int IntKind.i64 0))), none⟩])
  .ret)))
noncomputable def b94 : Code := Try.f94.body.getD .skip
theorem hb94 : Try.f94.body = some b94 := by kernel_rfl
theorem sh94 : shortC A94 b94 = c94 := by kernel_rfl
def rs94 : List ResultVar := [(ResultVar.cell 4 40), (ResultVar.tmp 5)]
theorem hr94 : Try.f94.results.toList = rs94 := by kernel_rfl
/- What a function hands back, as a tree: its blocks in a fixed order. -/
/-- A value that a function hands back: what was, or what is new. -/
inductive Tr where
  | at (a : AV)
  | sl (n es : Nat) (full : Bool) (cs : List Tr)
  | bx (cs : List Tr)
  | agg (cs : List Tr)
  | tup (cs : List Tr)
/-- A value without address, or of a time that was. -/
def old (c : Nat) : AV → Bool
  | .sl _ ver _ _ _ _ => decide (ver < c)
  | .ptr _ ver _ => decide (ver < c)
  | .agg _ | .tup _ | .func .. | .bad => false
  | _ => true
theorem old_rel {L c : Nat} {js : List (Nat × Nat)} {a : AV} (h : old c a = true) : a.rel L c js = a ∧ a ≠ .bad := by
  cases a <;> first
    | (simp only [old, Bool.false_eq_true] at h; done)
    | exact ⟨rfl, fun e => by cases e⟩
    | (simp only [old, decide_eq_true_eq] at h; exact ⟨by simp only [AV.rel, relR]; rw [if_pos h], fun e => by cases e⟩)
theorem old_mono {c c' : Nat} {a : AV} (h : old c a = true) (hc : c ≤ c') : old c' a = true := by
  cases a <;> first | exact h | (simp only [old, decide_eq_true_eq] at h ⊢; omega)
mutual
def mk : Tr → Hp → AV × Hp
  | .at a, H => (a, H)
  | .sl n es full cs, H => (.sl (mks cs H).2.bs.length (mks cs H).2.c 0 n es full, (mks cs H).2.new (mks cs H).1)
  | .bx cs, H => (.ptr (mks cs H).2.bs.length (mks cs H).2.c 0, (mks cs H).2.new (mks cs H).1)
  | .agg cs, H => (.agg (mks cs H).1, (mks cs H).2)
  | .tup cs, H => (.tup (mks cs H).1, (mks cs H).2)
def mks : List Tr → Hp → List AV × Hp
  | [], H => ([], H)
  | t :: l, H => ((mk t H).1 :: (mks l (mk t H).2).1, (mks l (mk t H).2).2)
end
mutual
/-- The value stands for the tree; its blocks, since time c, in order. -/
def Rep (c : Nat) (H : Hp) : Tr → AV → List (Nat × Nat) → Prop
  | .at a, v, bs => v = a ∧ bs = [] ∧ old c a = true
  | .sl n es full cs, v, bs => ∃ b ver vs bs', v = .sl b ver 0 n es full ∧ c ≤ ver ∧ H.at b ver = some ⟨ver, vs, true, true⟩ ∧ Reps c H cs vs bs' ∧ bs = bs' ++ [(b, ver)]
  | .bx cs, v, bs => ∃ b ver vs bs', v = .ptr b ver 0 ∧ c ≤ ver ∧ H.at b ver = some ⟨ver, vs, true, true⟩ ∧ Reps c H cs vs bs' ∧ bs = bs' ++ [(b, ver)]
  | .agg cs, v, bs => ∃ vs, v = .agg vs ∧ Reps c H cs vs bs
  | .tup cs, v, bs => ∃ vs, v = .tup vs ∧ Reps c H cs vs bs
def Reps (c : Nat) (H : Hp) : List Tr → List AV → List (Nat × Nat) → Prop
  | [], vs, bs => vs = [] ∧ bs = []
  | t :: l, vs, bs => ∃ v vs' b1 b2, vs = v :: vs' ∧ Rep c H t v b1 ∧ Reps c H l vs' b2 ∧ bs = b1 ++ b2
end
mutual
theorem Rep.mono {c c' : Nat} {H H' : Hp} (hc : c' ≤ c) (ho : ∀ a, old c a = true → old c' a = true ∨ False) (hp : Pre H H') : ∀ (t : Tr) {v : AV} {bs : List (Nat × Nat)}, Rep c H t v bs → Rep c' H' t v bs
  | .at a, v, bs, h => by
    simp only [Rep] at h ⊢
    exact ⟨h.1, h.2.1, (ho a h.2.2).elim id False.elim⟩
  | .sl n es full cs, v, bs, h => by
    simp only [Rep] at h ⊢
    obtain ⟨b, ver, vs, bs', e1, e2, e3, e4, e5⟩ := h
    exact ⟨b, ver, vs, bs', e1, Nat.le_trans hc e2, hp.at e3, Reps.mono hc ho hp cs e4, e5⟩
  | .bx cs, v, bs, h => by
    simp only [Rep] at h ⊢
    obtain ⟨b, ver, vs, bs', e1, e2, e3, e4, e5⟩ := h
    exact ⟨b, ver, vs, bs', e1, Nat.le_trans hc e2, hp.at e3, Reps.mono hc ho hp cs e4, e5⟩
  | .agg cs, v, bs, h => by
    simp only [Rep] at h ⊢
    obtain ⟨vs, e1, e2⟩ := h
    exact ⟨vs, e1, Reps.mono hc ho hp cs e2⟩
  | .tup cs, v, bs, h => by
    simp only [Rep] at h ⊢
    obtain ⟨vs, e1, e2⟩ := h
    exact ⟨vs, e1, Reps.mono hc ho hp cs e2⟩
theorem Reps.mono {c c' : Nat} {H H' : Hp} (hc : c' ≤ c) (ho : ∀ a, old c a = true → old c' a = true ∨ False) (hp : Pre H H') : ∀ (l : List Tr) {vs : List AV} {bs : List (Nat × Nat)}, Reps c H l vs bs → Reps c' H' l vs bs
  | [], vs, bs, h => by simpa only [Reps] using h
  | t :: l, vs, bs, h => by
    simp only [Reps] at h ⊢
    obtain ⟨v, vs', b1, b2, e1, e2, e3, e4⟩ := h
    exact ⟨v, vs', b1, b2, e1, Rep.mono hc ho hp t e2, Reps.mono hc ho hp l e3, e4⟩
end
theorem Rep.ext {c : Nat} {H H' : Hp} (hp : Pre H H') {t : Tr} {v : AV} {bs : List (Nat × Nat)} (h : Rep c H t v bs) : Rep c H' t v bs := h.mono (Nat.le_refl _) (fun _ h => .inl h) hp
theorem Reps.ext {c : Nat} {H H' : Hp} (hp : Pre H H') {l : List Tr} {vs : List AV} {bs : List (Nat × Nat)} (h : Reps c H l vs bs) : Reps c H' l vs bs := h.mono (Nat.le_refl _) (fun _ h => .inl h) hp
/-! ### what is handed back is named anew -/
def cellsAt (H : Hp) (p : Nat × Nat) : List AV := match H.at p.1 p.2 with | some k => k.cells | none => []
def nb (L c : Nat) (js : List (Nat × Nat)) (H : Hp) : Nat → List (Nat × Nat) → List Blk
  | _, [] => []
  | i, p :: l => ⟨c + i, rels L c js (cellsAt H p), true, true⟩ :: nb L c js H (i + 1) l
theorem nb_len (L c : Nat) (js : List (Nat × Nat)) (H : Hp) : ∀ (l : List (Nat × Nat)) (i : Nat), (nb L c js H i l).length = l.length := by
  intro l
  induction l with
  | nil => intro i; rfl
  | cons p l ih => intro i; simp [nb, ih]
theorem nb_app (L c : Nat) (js : List (Nat × Nat)) (H : Hp) : ∀ (l m : List (Nat × Nat)) (i : Nat), nb L c js H i (l ++ m) = nb L c js H i l ++ nb L c js H (i + l.length) m := by
  intro l
  induction l with
  | nil => intro m i; simp [nb]
  | cons p l ih => intro m i; simp [nb, ih, Nat.add_assoc, Nat.add_comm 1]
theorem nb_at (L c : Nat) (js : List (Nat × Nat)) (H : Hp) : ∀ (l : List (Nat × Nat)) (i j : Nat) (p : Nat × Nat), l[j]? = some p → (nb L c js H i l)[j]? = some ⟨c + i + j, rels L c js (cellsAt H p), true, true⟩ := by
  intro l
  induction l with
  | nil => intro i j p h; simp at h
  | cons q l ih =>
    intro i j p h
    cases j with
    | zero => simp at h; subst h; simp [nb]
    | succ j =>
      have := ih (i + 1) j p (by simpa using h)
      simp only [nb, List.getElem?_cons_succ, this]
      congr 2; omega
theorem pos_of : ∀ (js : List (Nat × Nat)) (i k : Nat) (b ver : Nat), js[i]? = some (b, ver) → js.Nodup → pos js k b ver = some (k + i) := by
  intro js
  induction js with
  | nil => intro i k b ver h; simp at h
  | cons p l ih =>
    intro i k b ver h hn
    rw [List.nodup_cons] at hn
    cases i with
    | zero => simp at h; subst h; simp [pos]
    | succ i =>
      have h' : l[i]? = some (b, ver) := by simpa using h
      have hne : ¬ (b = p.1 ∧ ver = p.2) := by
        rintro ⟨rfl, rfl⟩
        exact hn.1 (List.mem_of_getElem? h')
      simp only [pos]
      rw [if_neg hne, ih i (k + 1) b ver h' hn.2]
      congr 1; omega
section
variable {L c : Nat} {H : Hp} {js : List (Nat × Nat)} (hn : js.Nodup)
include hn
mutual
theorem rep_mk : ∀ (t : Tr) {v : AV} {bs : List (Nat × Nat)} (p q : List (Nat × Nat)) (HP : Hp), js = p ++ bs ++ q → HP.bs.length = L + p.length → HP.c = c + p.length → Rep c H t v bs →
    (mk t HP).1 = v.rel L c js ∧ (mk t HP).1 ≠ .bad ∧ (mk t HP).2 = ⟨HP.bs ++ nb L c js H p.length bs, HP.c + bs.length⟩ ∧ (∀ k ∈ nb L c js H p.length bs, .bad ∉ k.cells) ∧ ∀ x ∈ bs, c ≤ x.2 ∧ ∃ cs, H.at x.1 x.2 = some ⟨x.2, cs, true, true⟩
  | .at a, v, bs, p, q, HP, hj, h1, h2, h => by
    simp only [Rep] at h
    obtain ⟨rfl, rfl, ho⟩ := h
    obtain ⟨e1, e2⟩ := old_rel (L := L) (c := c) (js := js) ho
    simp only [mk]
    exact ⟨e1.symm, e2, by simp [nb], by simp [nb], by simp⟩
  | .agg cs, v, bs, p, q, HP, hj, h1, h2, h => by
    simp only [Rep] at h
    obtain ⟨vs, rfl, hc⟩ := h
    obtain ⟨e1, e2, e3, e4, e5⟩ := reps_mk cs p q HP hj h1 h2 hc
    simp only [mk, AV.rel]
    exact ⟨by rw [e1], fun e => (by cases e), e3, e4, e5⟩
  | .tup cs, v, bs, p, q, HP, hj, h1, h2, h => by
    simp only [Rep] at h
    obtain ⟨vs, rfl, hc⟩ := h
    obtain ⟨e1, e2, e3, e4, e5⟩ := reps_mk cs p q HP hj h1 h2 hc
    simp only [mk, AV.rel]
    exact ⟨by rw [e1], fun e => (by cases e), e3, e4, e5⟩
  | .sl n es full cs, v, bs, p, q, HP, hj, h1, h2, h => by
    simp only [Rep] at h
    obtain ⟨b, ver, vs, bs', rfl, hv, hk, hc, rfl⟩ := h
    have hj' : js = p ++ bs' ++ ((b, ver) :: q) := by rw [hj]; simp
    obtain ⟨e1, e2, e3, e4, e5⟩ := reps_mk cs p ((b, ver) :: q) HP hj' h1 h2 hc
    have hi : js[p.length + bs'.length]? = some (b, ver) := by rw [hj']; simp
    have hr : relR L c js b ver = some (L + (p.length + bs'.length), c + (p.length + bs'.length)) := by
      unfold relR
      rw [if_neg (Nat.not_lt.2 hv), pos_of js _ 0 b ver hi hn]
      simp
    have hce : cellsAt H (b, ver) = vs := by simp [cellsAt, hk]
    simp only [mk, AV.rel, hr, e3]
    refine ⟨?_, fun e => (by cases e), ?_, ?_, ?_⟩
    · simp only [List.length_append, nb_len, h1, h2, Nat.add_assoc]
    · simp only [Hp.new, nb_app, nb, hce, e1, List.append_assoc, List.length_append, List.length_singleton, h2, Nat.add_assoc]
    · intro k hk'
      rw [nb_app] at hk'
      rcases List.mem_append.1 hk' with hk' | hk'
      · exact e4 k hk'
      · simp only [nb, List.mem_singleton] at hk'
        subst hk'
        simp only [hce]
        rw [← e1]; exact e2
    · intro x hx
      rcases List.mem_append.1 hx with hx | hx
      · exact e5 x hx
      · simp at hx; subst hx; exact ⟨hv, vs, hk⟩
  | .bx cs, v, bs, p, q, HP, hj, h1, h2, h => by
    simp only [Rep] at h
    obtain ⟨b, ver, vs, bs', rfl, hv, hk, hc, rfl⟩ := h
    have hj' : js = p ++ bs' ++ ((b, ver) :: q) := by rw [hj]; simp
    obtain ⟨e1, e2, e3, e4, e5⟩ := reps_mk cs p ((b, ver) :: q) HP hj' h1 h2 hc
    have hi : js[p.length + bs'.length]? = some (b, ver) := by rw [hj']; simp
    have hr : relR L c js b ver = some (L + (p.length + bs'.length), c + (p.length + bs'.length)) := by
      unfold relR
      rw [if_neg (Nat.not_lt.2 hv), pos_of js _ 0 b ver hi hn]
      simp
    have hce : cellsAt H (b, ver) = vs := by simp [cellsAt, hk]
    simp only [mk, AV.rel, hr, e3]
    refine ⟨?_, fun e => (by cases e), ?_, ?_, ?_⟩
    · simp only [List.length_append, nb_len, h1, h2, Nat.add_assoc]
    · simp only [Hp.new, nb_app, nb, hce, e1, List.append_assoc, List.length_append, List.length_singleton, h2, Nat.add_assoc]
    · intro k hk'
      rw [nb_app] at hk'
      rcases List.mem_append.1 hk' with hk' | hk'
      · exact e4 k hk'
      · simp only [nb, List.mem_singleton] at hk'
        subst hk'
        simp only [hce]
        rw [← e1]; exact e2
    · intro x hx
      rcases List.mem_append.1 hx with hx | hx
      · exact e5 x hx
      · simp at hx; subst hx; exact ⟨hv, vs, hk⟩
theorem reps_mk : ∀ (l : List Tr) {vs : List AV} {bs : List (Nat × Nat)} (p q : List (Nat × Nat)) (HP : Hp), js = p ++ bs ++ q → HP.bs.length = L + p.length → HP.c = c + p.length → Reps c H l vs bs →
    (mks l HP).1 = rels L c js vs ∧ .bad ∉ (mks l HP).1 ∧ (mks l HP).2 = ⟨HP.bs ++ nb L c js H p.length bs, HP.c + bs.length⟩ ∧ (∀ k ∈ nb L c js H p.length bs, .bad ∉ k.cells) ∧ ∀ x ∈ bs, c ≤ x.2 ∧ ∃ cs, H.at x.1 x.2 = some ⟨x.2, cs, true, true⟩
  | [], vs, bs, p, q, HP, hj, h1, h2, h => by
    simp only [Reps] at h
    obtain ⟨rfl, rfl⟩ := h
    simp [mks, rels, nb]
  | t :: l, vs, bs, p, q, HP, hj, h1, h2, h => by
    simp only [Reps] at h
    obtain ⟨v, vs', b1, b2, rfl, ht, hl, rfl⟩ := h
    obtain ⟨e1, e2, e3, e4, e5⟩ := rep_mk t p (b2 ++ q) HP (by rw [hj]; simp) h1 h2 ht
    obtain ⟨f1, f2, f3, f4, f5⟩ := reps_mk l (p ++ b1) q (mk t HP).2 (by rw [hj]; simp) (by rw [e3]; simp [nb_len, h1]; omega) (by rw [e3]; simp [h2]; omega) hl
    simp only [mks, rels]
    refine ⟨by rw [e1, f1], ?_, ?_, ?_, ?_⟩
    · intro hm
      rcases List.mem_cons.1 hm with hm | hm
      · exact e2 hm.symm
      · exact f2 hm
    · rw [f3, e3, nb_app]
      simp [Nat.add_assoc]
    · intro k hk
      rw [nb_app] at hk
      rcases List.mem_append.1 hk with hk | hk
      · exact e4 k hk
      · exact f4 k (by simpa using hk)
    · intro x hx
      rcases List.mem_append.1 hx with hx | hx
      · exact e5 x hx
      · exact f5 x hx
end
end
theorem can_rep {H0 H : Hp} (hw : Wf H0) (hp : Pre H0 H) {t : Tr} {v : AV} {bs : List (Nat × Nat)} (h : Rep H0.c H t v bs) (hn : bs.Nodup) : Can H0 H (mk t H0).2 v (mk t H0).1 bs := by
  obtain ⟨e1, e2, e3, e4, e5⟩ := rep_mk (L := H0.bs.length) (c := H0.c) (H := H) hn t [] [] H0 (by simp) (by simp) (by simp) h
  rw [e3]
  refine ⟨by simp, by simp [nb_len], fun b hb => ?_, fun i j ver hi => ?_, hn, fun i k hk => ?_, e1.symm⟩
  · have h1 : H0.bs[b]? = some H0.bs[b] := List.getElem?_eq_getElem hb
    exact ⟨H0.bs[b], hp b _ h1, hw b _ h1, by simp [List.getElem?_append_left hb, h1], .inl h1⟩
  · obtain ⟨g1, cs, g2⟩ := e5 _ (List.mem_of_getElem? hi)
    obtain ⟨g3, g4⟩ := Hp.at_some g2
    refine ⟨g1, _, g3, rfl, ?_⟩
    simp only
    rw [List.getElem?_append_right (by omega), Nat.add_sub_cancel_left]
    have := nb_at H0.bs.length H0.c bs H bs 0 i (j, ver) hi
    simp only [cellsAt, g2, Nat.add_zero] at this
    exact this
  · simp only at hk
    rw [List.getElem?_append_right (by omega)] at hk
    exact e4 k (List.mem_of_getElem? hk)
/-! ### what a call has handed back -/
mutual
def okT (c : Nat) : Tr → Bool
  | .at a => old c a
  | .sl _ _ _ cs => okTs c cs
  | .bx cs => okTs c cs
  | .agg cs => okTs c cs
  | .tup cs => okTs c cs
def okTs (c : Nat) : List Tr → Bool
  | [] => true
  | t :: l => okT c t && okTs c l
end
/-- New blocks in order: of a time from c on, before d. -/
def Fresh (c d : Nat) (bs : List (Nat × Nat)) : Prop := bs.Nodup ∧ ∀ p ∈ bs, c ≤ p.2 ∧ p.2 < d
theorem Fresh.nil (c d : Nat) : Fresh c d [] := ⟨List.nodup_nil, by simp⟩
theorem Fresh.app {c d e : Nat} {a b : List (Nat × Nat)} (h : Fresh c d a) (k : Fresh d e b) (hcd : c ≤ d) (hde : d ≤ e) : Fresh c e (a ++ b) := by
  refine ⟨List.nodup_append.2 ⟨h.1, k.1, ?_⟩, ?_⟩
  · intro x hx y hy hxy
    subst hxy
    have := (h.2 x hx).2
    have := (k.2 x hy).1
    omega
  · intro p hp
    rcases List.mem_append.1 hp with hp | hp
    · have := h.2 p hp; omega
    · have := k.2 p hp; omega
theorem Fresh.one {c d b ver : Nat} (h1 : c ≤ ver) (h2 : ver < d) : Fresh c d [(b, ver)] := ⟨by simp, by simp; omega⟩
theorem Fresh.wide {c d c' d' : Nat} {bs : List (Nat × Nat)} (h : Fresh c d bs) (h1 : c' ≤ c) (h2 : d ≤ d') : Fresh c' d' bs := ⟨h.1, fun p hp => by have := h.2 p hp; omega⟩
mutual
theorem mk_rep : ∀ (t : Tr) {c0 : Nat} {H : Hp}, Wf H → c0 ≤ H.c → okT c0 t = true → ∃ bs, Rep H.c (mk t H).2 t (mk t H).1 bs ∧ Fresh H.c (mk t H).2.c bs ∧ Ext H (mk t H).2
  | .at a, c0, H, hw, hc, h => by
    simp only [okT] at h
    exact ⟨[], by simp only [Rep, mk]; exact ⟨trivial, trivial, old_mono h hc⟩, Fresh.nil _ _, Ext.refl hw⟩
  | .sl n es full cs, c0, H, hw, hc, h => by
    simp only [okT] at h
    obtain ⟨bs, h1, h2, h3⟩ := mks_rep cs hw hc h
    simp only [mk, Rep]
    refine ⟨bs ++ [((mks cs H).2.bs.length, (mks cs H).2.c)], ⟨_, _, _, bs, rfl, h3.c, new_at _ _, h1.ext (Pre.new (Pre.refl _) _), rfl⟩, ?_, h3.new _⟩
    exact h2.app (Fresh.one (Nat.le_refl _) (Nat.lt_succ_self _)) h3.c (Nat.le_succ _)
  | .bx cs, c0, H, hw, hc, h => by
    simp only [okT] at h
    obtain ⟨bs, h1, h2, h3⟩ := mks_rep cs hw hc h
    simp only [mk, Rep]
    refine ⟨bs ++ [((mks cs H).2.bs.length, (mks cs H).2.c)], ⟨_, _, _, bs, rfl, h3.c, new_at _ _, h1.ext (Pre.new (Pre.refl _) _), rfl⟩, ?_, h3.new _⟩
    exact h2.app (Fresh.one (Nat.le_refl _) (Nat.lt_succ_self _)) h3.c (Nat.le_succ _)
  | .agg cs, c0, H, hw, hc, h => by
    simp only [okT] at h
    obtain ⟨bs, h1, h2, h3⟩ := mks_rep cs hw hc h
    simp only [mk, Rep]
    exact ⟨bs, ⟨_, rfl, h1⟩, h2, h3⟩
  | .tup cs, c0, H, hw, hc, h => by
    simp only [okT] at h
    obtain ⟨bs, h1, h2, h3⟩ := mks_rep cs hw hc h
    simp only [mk, Rep]
    exact ⟨bs, ⟨_, rfl, h1⟩, h2, h3⟩
theorem mks_rep : ∀ (l : List Tr) {c0 : Nat} {H : Hp}, Wf H → c0 ≤ H.c → okTs c0 l = true → ∃ bs, Reps H.c (mks l H).2 l (mks l H).1 bs ∧ Fresh H.c (mks l H).2.c bs ∧ Ext H (mks l H).2
  | [], c0, H, hw, hc, h => ⟨[], by simp only [Reps, mks]; exact ⟨trivial, trivial⟩, Fresh.nil _ _, Ext.refl hw⟩
  | t :: l, c0, H, hw, hc, h => by
    simp only [okTs, Bool.and_eq_true] at h
    obtain ⟨b1, h1, h2, h3⟩ := mk_rep t hw hc h.1
    obtain ⟨b2, g1, g2, g3⟩ := mks_rep l (H := (mk t H).2) h3.wf (Nat.le_trans hc h3.c) h.2
    simp only [mks, Reps]
    refine ⟨b1 ++ b2, ⟨_, _, b1, b2, rfl, h1.ext g3.pre, ?_, rfl⟩, h2.app g2 h3.c g3.c, h3.trans g3⟩
    exact reps_down l h.2 hc h3.c g1
theorem rep_down : ∀ (t : Tr) {c0 c d : Nat} {H : Hp} {v : AV} {bs : List (Nat × Nat)}, okT c0 t = true → c0 ≤ c → c ≤ d → Rep d H t v bs → Rep c H t v bs
  | .at a, c0, c, d, H, v, bs, h, h1, h2, h3 => by
    simp only [okT] at h
    simp only [Rep] at h3 ⊢
    exact ⟨h3.1, h3.2.1, old_mono h h1⟩
  | .sl n es full cs, c0, c, d, H, v, bs, h, h1, h2, h3 => by
    simp only [okT] at h
    simp only [Rep] at h3 ⊢
    obtain ⟨b, ver, vs, bs', e1, e2, e3, e4, e5⟩ := h3
    exact ⟨b, ver, vs, bs', e1, Nat.le_trans h2 e2, e3, reps_down cs h h1 h2 e4, e5⟩
  | .bx cs, c0, c, d, H, v, bs, h, h1, h2, h3 => by
    simp only [okT] at h
    simp only [Rep] at h3 ⊢
    obtain ⟨b, ver, vs, bs', e1, e2, e3, e4, e5⟩ := h3
    exact ⟨b, ver, vs, bs', e1, Nat.le_trans h2 e2, e3, reps_down cs h h1 h2 e4, e5⟩
  | .agg cs, c0, c, d, H, v, bs, h, h1, h2, h3 => by
    simp only [okT] at h
    simp only [Rep] at h3 ⊢
    obtain ⟨vs, e1, e4⟩ := h3
    exact ⟨vs, e1, reps_down cs h h1 h2 e4⟩
  | .tup cs, c0, c, d, H, v, bs, h, h1, h2, h3 => by
    simp only [okT] at h
    simp only [Rep] at h3 ⊢
    obtain ⟨vs, e1, e4⟩ := h3
    exact ⟨vs, e1, reps_down cs h h1 h2 e4⟩
theorem reps_down : ∀ (l : List Tr) {c0 c d : Nat} {H : Hp} {vs : List AV} {bs : List (Nat × Nat)}, okTs c0 l = true → c0 ≤ c → c ≤ d → Reps d H l vs bs → Reps c H l vs bs
  | [], c0, c, d, H, vs, bs, h, h1, h2, h3 => by simpa only [Reps] using h3
  | t :: l, c0, c, d, H, vs, bs, h, h1, h2, h3 => by
    simp only [okTs, Bool.and_eq_true] at h
    simp only [Reps] at h3 ⊢
    obtain ⟨v, vs', b1, b2, e1, e2, e3, e4⟩ := h3
    exact ⟨v, vs', b1, b2, e1, rep_down t h.1 h1 h2 e2, reps_down l h.2 h1 h2 e3, e4⟩
end
/-! ### lists of numbers as trees -/
def trI (l : List Int) : List Tr := l.map fun n => .at (.int .i64 n)
def trS (l : List Int) : Tr := if l = [] then .at .nilS else .sl l.length 1 false (trI l)
def trF (l : List Int) : Tr := .sl l.length 1 true (trI l)
theorem okT_I (c : Nat) (l : List Int) : okTs c (trI l) = true := by
  induction l with
  | nil => rfl
  | cons a l ih => simp only [trI, List.map_cons, okTs, okT, old, Bool.true_and] at ih ⊢; exact ih
theorem okT_S (c : Nat) (l : List Int) : okT c (trS l) = true := by
  unfold trS; split
  · rfl
  · exact okT_I c l
theorem okT_F (c : Nat) (l : List Int) : okT c (trF l) = true := okT_I c l
theorem mks_I (H : Hp) (l : List Int) : mks (trI l) H = (l.map (.int .i64), H) := by
  induction l with
  | nil => rfl
  | cons a l ih => simp only [trI, List.map_cons, mks, mk] at ih ⊢; rw [ih]
theorem mk_F (H : Hp) (l : List Int) : mk (trF l) H = mkF H l := by
  simp only [trF, mk, mks_I, mkF]
theorem reps_I {c : Nat} {H : Hp} : ∀ {l : List Int} {vs : List AV} {bs : List (Nat × Nat)}, Reps c H (trI l) vs bs ↔ vs = l.map (.int .i64) ∧ bs = [] := by
  intro l
  induction l with
  | nil => intro vs bs; simp [trI, Reps]
  | cons a l ih =>
    intro vs bs
    simp only [trI, List.map_cons, Reps, Rep] at ih ⊢
    constructor
    · rintro ⟨v, vs', b1, b2, rfl, ⟨rfl, rfl, _⟩, h, rfl⟩
      obtain ⟨rfl, rfl⟩ := ih.1 h
      exact ⟨rfl, rfl⟩
    · rintro ⟨rfl, rfl⟩
      exact ⟨_, _, [], [], rfl, ⟨rfl, rfl, rfl⟩, ih.2 ⟨rfl, rfl⟩, rfl⟩
theorem rep_F {c : Nat} {H : Hp} {l : List Int} {v : AV} {bs : List (Nat × Nat)} : Rep c H (trF l) v bs ↔ ∃ b ver, v = .sl b ver 0 l.length 1 true ∧ c ≤ ver ∧ H.at b ver = some ⟨ver, l.map (.int .i64), true, true⟩ ∧ bs = [(b, ver)] := by
  simp only [trF, Rep, reps_I]
  constructor
  · rintro ⟨b, ver, vs, bs', rfl, h1, h2, ⟨rfl, rfl⟩, rfl⟩
    exact ⟨b, ver, rfl, h1, h2, rfl⟩
  · rintro ⟨b, ver, rfl, h1, h2, rfl⟩
    exact ⟨b, ver, _, [], rfl, h1, h2, ⟨rfl, rfl⟩, rfl⟩
theorem rep_S {c : Nat} {H : Hp} {l : List Int} {v : AV} {bs : List (Nat × Nat)} : Rep c H (trS l) v bs ↔ (l = [] ∧ v = .nilS ∧ bs = []) ∨ ∃ b ver, v = .sl b ver 0 l.length 1 false ∧ c ≤ ver ∧ l ≠ [] ∧ H.at b ver = some ⟨ver, l.map (.int .i64), true, true⟩ ∧ bs = [(b, ver)] := by
  unfold trS
  by_cases h : l = []
  · subst h
    simp [Rep, old]
  · rw [if_neg h]
    simp only [Rep, reps_I, h, false_and, false_or]
    constructor
    · rintro ⟨b, ver, vs, bs', rfl, h1, h2, ⟨rfl, rfl⟩, rfl⟩
      exact ⟨b, ver, rfl, h1, h, h2, rfl⟩
    · rintro ⟨b, ver, rfl, h1, _, h2, rfl⟩
      exact ⟨b, ver, _, [], rfl, h1, h2, ⟨rfl, rfl⟩, rfl⟩
/-- The end of a walk that hands back a tree. -/
theorem goEndR {E : Env} {H0 H : Hp} {x : Ex} {s : Sl} {rs : List ResultVar} {q : Option (List AV)} {vs : List AV} {t : Tr} {bs : List (Nat × Nat)} {d : Nat} {r : AV} {Hr : Hp} (hw : Wf H0) (he : Pre H0 H) (ho : Rep H0.c H t (xret vs) bs) (hf : Fresh H0.c d bs) (hx : x = .norm ∨ x = .ret) (e : xres T s H rs = q) (eq : q = some vs) (hr : mk t H0 = (r, Hr)) :
    K E T (.fin fun x s' H2 => (x = .norm ∨ x = .ret) ∧ ∃ vs js, xres T s' H2 rs = some vs ∧ Can H0 H2 Hr (xret vs) r js) x s H := by
  have := can_rep hw he ho hf.1
  rw [hr] at this
  exact ⟨⟨hx, vs, bs, e.trans eq, this⟩⟩
/- Walks: shapes, as tensors have them. -/
def r1Go : Nat → Int → List Int → Bool
  | _, n, [] => decide (n ≤ 4096)
  | i, n, k :: l => if k < 0 ∨ 32 < k ∨ (4 : Int) ≤ i then false else r1Go (i + 1) (w (n * k)) l
def r1OK (l : List Int) : Bool := r1Go 0 1 l
theorem r1Go_eq : ∀ (l : List Int) (i : Nat) (n : Int), i ≤ 4 → r1Go i n l = if 4 < i + l.length then false else shapeGo n l := by
  intro l
  induction l with
  | nil => intro i n hi; simp [r1Go, shapeGo]; omega
  | cons k l ih =>
    intro i n hi
    simp only [r1Go, shapeGo, List.length_cons]
    by_cases h3 : 4 ≤ i
    · have : (4 : Int) ≤ (i : Int) := by omega
      rw [if_pos (.inr (.inr this)), if_pos (by omega)]
    · have h3' : ¬ (4 : Int) ≤ (i : Int) := by omega
      by_cases hk : k < 0 ∨ 32 < k
      · rw [if_pos (by rcases hk with h | h; exact .inl h; exact .inr (.inl h)), if_pos hk]; simp
      · rw [if_neg (by simp only [h3', or_false]; exact hk), if_neg hk, ih (i + 1) _ (by omega)]
        rw [show i + 1 + l.length = i + (l.length + 1) by omega]
theorem r1OK_eq (l : List Int) : r1OK l = shapeOK l := by
  simp [r1OK, shapeOK, r1Go_eq l 0 1 (by omega)]
def F101 (args : List AV) (H : Hp) : Option AV := match args with
  | [v] => (ints H v).map fun l => .bool (r1OK l)
  | _ => none
theorem snd101 : Sound Try.prog 101 (FSem.pure F101).run := by
  refine sound_of hT (EOK_nil _) mixed A101 Try.func101 hb101 (by kernel_rfl) (by kernel_rfl) (by kernel_rfl) (by kernel_rfl) sh101 1 (by kernel_rfl) rs101 hr101 ?_
  intro args H r H' hw h
  obtain ⟨rfl, hv⟩ := pureAt h
  clear h
  unfold F101 at hv
  split at hv
  · rename_i v
    obtain ⟨l, hl, hv⟩ := Option.map_eq_some_iff.1 hv
    cases hv
    have hlen := alenS_ints hl
    have hb := ints_len hl
    have hix := aidxS_ints hl .i64
    have hld := aload_nth T3 rfl hl
    refine ⟨rfl, go ?_⟩
    unfold c101
    simp only [argSl]
    simp only [← aidx22, ← alen22] at hix hlen
    repeat' (first | apply goSeq | apply goReg | apply goSeqN | apply goSeqR | apply goSkip | apply goRet | apply goNil | apply goBlock | apply goExit | apply goBlkN | apply goBlkR | apply goBlkE | apply goSeqE | apply goLoopR | apply goLoopE | refine xOp ?_ | refine xOp0 ?_ | refine xYes ?_ | refine xNo ?_ | refine xNoU ?_ | refine xIfT ?_ | refine xIfF ?_ | refine xIf ?_ ?_ | refine xSplit ?_ ?_ | refine xIfQ ?_ ?_ | refine xSplitQ ?_ ?_ | refine xBlkX ?_ | intro _)
    refine goLoop (fun m s1 H1 => H1 = H' ∧ ∃ (i : Nat) (n : Int), m = l.length - i ∧ i ≤ l.length ∧ get s1 0 = v ∧ get s1 3 = .int .i64 n ∧ get s1 4 = .int .i64 i ∧ r1Go i n (l.drop i) = r1OK l) l.length ?_ ?_
    · exact ⟨rfl, 0, 1, rfl, Nat.zero_le _, rfl, rfl, rfl, rfl⟩
    · rintro m s1 H1 ⟨rfl, i, n, hm, hi, g3, g9, g10, hgo⟩
      simp only [cut_cons, cut_nil, g3, g9, g10]
      have hi0 : (0 : Int) ≤ i := Int.natCast_nonneg i
      have hd := fun h => drop_nth l i h
      have hnil : ¬ i < l.length → l.drop i = [] := fun h => List.drop_of_length_le (by omega)
      have hw1 : w ((i : Int) + 1) = ((i + 1 : Nat) : Int) := w_id (by omega)
      clear g3 g9 g10
      repeat' (first | apply goSeq | apply goReg | apply goSeqN | apply goSeqR | apply goSkip | apply goRet | apply goNil | apply goBlock | apply goExit | apply goBlkN | apply goBlkR | apply goBlkE | apply goSeqE | apply goLoopR | apply goLoopE | refine xOp ?_ | refine xOp0 ?_ | refine xYes ?_ | refine xNo ?_ | refine xNoU ?_ | refine xIfT ?_ | refine xIfF ?_ | refine xIf ?_ ?_ | refine xSplit ?_ ?_ | refine xIfQ ?_ ?_ | refine xSplitQ ?_ ?_ | refine xBlkX ?_ | intro _)
      all_goals first
        | (refine goEnd hw (Pre.refl _) (by simp) (by simp [rs101]; exact rfl) rfl ?_; rw [← hgo]; simp [r1Go, hd, hnil, *]; done)
        | (refine goLoopN (l.length - (i + 1)) (by omega) ⟨rfl, i + 1, _, rfl, by omega, rfl, rfl, rfl, ?_⟩; rw [← hgo]; simp [r1Go, hd, *])
  · cases hv
@[simp] theorem F101_at (v : AV) (H : Hp) : F101 [v] H = (ints H v).map fun l => .bool (r1OK l) := rfl
/-- How many numbers there are. -/
def sizeOf (l : List Int) : Int := if shapeOK l = true then prodW 1 l else 0
def F100 (args : List AV) (H : Hp) : Option AV := match args with
  | [v] => (ints H v).map fun l => .int .i64 (sizeOf l)
  | _ => none
theorem snd100 : Sound Try.prog 100 (FSem.pure F100).run := by
  refine sound_of hT (EOK_cons snd101 (EOK_nil _)) mixed A100 Try.func100 hb100 (by kernel_rfl) (by kernel_rfl) (by kernel_rfl) (by kernel_rfl) sh100 1 (by kernel_rfl) rs100 hr100 ?_
  intro args H r H' hw h
  obtain ⟨rfl, hv⟩ := pureAt h
  clear h
  unfold F100 at hv
  split at hv
  · rename_i v
    obtain ⟨l, hl, hv⟩ := Option.map_eq_some_iff.1 hv
    cases hv
    have hr1 := r1OK_eq l
    have hlen := alenS_ints hl
    have hb := ints_len hl
    have hix := aidxS_ints hl .i64
    have hld := aload_nth T3 rfl hl
    refine ⟨rfl, go ?_⟩
    unfold c100
    simp only [argSl]
    simp only [← aidx22, ← alen22] at hix hlen
    repeat' (first | apply goSeq | apply goReg | apply goSeqN | apply goSeqR | apply goSkip | apply goRet | apply goNil | apply goBlock | apply goExit | apply goBlkN | apply goBlkR | apply goBlkE | apply goSeqE | apply goLoopR | apply goLoopE | refine xOp ?_ | refine xOp0 ?_ | refine xYes ?_ | refine xNo ?_ | refine xNoU ?_ | refine xIfT ?_ | refine xIfF ?_ | refine xIf ?_ ?_ | refine xSplit ?_ ?_ | refine xIfQ ?_ ?_ | refine xSplitQ ?_ ?_ | refine xBlkX ?_ | intro _)
    · refine goEnd hw (Pre.refl _) (by simp) (by simp [rs100]; exact rfl) rfl ?_
      simp_all [sizeOf]
    · rename_i hm
      have hm' : shapeOK l = true := by simpa using hm
      refine goLoop (fun m s1 H1 => H1 = H' ∧ ∃ (i : Nat) (n : Int), m = l.length - i ∧ i ≤ l.length ∧ get s1 0 = v ∧ get s1 3 = .int .i64 n ∧ get s1 4 = .int .i64 i ∧ prodW n (l.drop i) = sizeOf l) l.length ?_ ?_
      · exact ⟨rfl, 0, 1, rfl, Nat.zero_le _, rfl, rfl, rfl, by simp [sizeOf, hm']⟩
      · rintro m s1 H1 ⟨rfl, i, n, hmm, hi, g3, g9, g10, hgo⟩
        simp only [cut_cons, cut_nil, g3, g9, g10]
        have hi0 : (0 : Int) ≤ i := Int.natCast_nonneg i
        have hd := fun h => drop_nth l i h
        have hnil : ¬ i < l.length → l.drop i = [] := fun h => List.drop_of_length_le (by omega)
        have hw1 : w ((i : Int) + 1) = ((i + 1 : Nat) : Int) := w_id (by omega)
        clear g3 g9 g10
        repeat' (first | apply goSeq | apply goReg | apply goSeqN | apply goSeqR | apply goSkip | apply goRet | apply goNil | apply goBlock | apply goExit | apply goBlkN | apply goBlkR | apply goBlkE | apply goSeqE | apply goLoopR | apply goLoopE | refine xOp ?_ | refine xOp0 ?_ | refine xYes ?_ | refine xNo ?_ | refine xNoU ?_ | refine xIfT ?_ | refine xIfF ?_ | refine xIf ?_ ?_ | refine xSplit ?_ ?_ | refine xIfQ ?_ ?_ | refine xSplitQ ?_ ?_ | refine xBlkX ?_ | intro _)
        all_goals first
          | (refine goEnd hw (Pre.refl _) (by simp) (by simp [rs100]; exact rfl) rfl ?_; rw [← hgo]; simp [prodW, hd, hnil, *]; done)
          | (refine goLoopN (l.length - (i + 1)) (by omega) ⟨rfl, i + 1, _, rfl, by omega, rfl, rfl, rfl, ?_⟩; rw [← hgo]; simp [prodW, hd, *])
  · cases hv
@[simp] theorem F100_at (v : AV) (H : Hp) : F100 [v] H = (ints H v).map fun l => .int .i64 (sizeOf l) := rfl
def F136 (args : List AV) (H : Hp) : Option AV := match args with
  | [v] => (ints H v).map fun l => .int .i64 (sizeOf l)
  | _ => none
theorem snd136 : Sound Try.prog 136 (FSem.pure F136).run := by
  refine sound_of hT (EOK_cons snd90 (EOK_nil _)) mixed A136 Try.func136 hb136 (by kernel_rfl) (by kernel_rfl) (by kernel_rfl) (by kernel_rfl) sh136 1 (by kernel_rfl) rs136 hr136 ?_
  intro args H r H' hw h
  obtain ⟨rfl, hv⟩ := pureAt h
  clear h
  unfold F136 at hv
  split at hv
  · rename_i v
    obtain ⟨l, hl, hv⟩ := Option.map_eq_some_iff.1 hv
    cases hv
    have hlen := alenS_ints hl
    have hb := ints_len hl
    have hix := aidxS_ints hl .i64
    have hld := aload_nth T3 rfl hl
    refine ⟨rfl, go ?_⟩
    unfold c136
    simp only [argSl]
    simp only [← aidx22, ← alen22] at hix hlen
    repeat' (first | apply goSeq | apply goReg | apply goSeqN | apply goSeqR | apply goSkip | apply goRet | apply goNil | apply goBlock | apply goExit | apply goBlkN | apply goBlkR | apply goBlkE | apply goSeqE | apply goLoopR | apply goLoopE | refine xOp ?_ | refine xOp0 ?_ | refine xYes ?_ | refine xNo ?_ | refine xNoU ?_ | refine xIfT ?_ | refine xIfF ?_ | refine xIf ?_ ?_ | refine xSplit ?_ ?_ | refine xIfQ ?_ ?_ | refine xSplitQ ?_ ?_ | refine xBlkX ?_ | intro _)
    · refine goEnd hw (Pre.refl _) (by simp) (by simp [rs136]; exact rfl) rfl ?_
      simp_all [sizeOf]
    · rename_i hm
      have hm' : shapeOK l = true := by simpa using hm
      refine goLoop (fun m s1 H1 => H1 = H' ∧ ∃ (i : Nat) (n : Int), m = l.length - i ∧ i ≤ l.length ∧ get s1 3 = .int .i64 n ∧ get s1 9 = v ∧ get s1 10 = .int .i64 l.length ∧ get s1 11 = .int .i64 i ∧ prodW n (l.drop i) = sizeOf l) l.length ?_ ?_
      · exact ⟨rfl, 0, 1, rfl, Nat.zero_le _, rfl, rfl, rfl, rfl, by simp [sizeOf, hm']⟩
      · rintro m s1 H1 ⟨rfl, i, n, hmm, hi, g3, g9, g10, g11, hgo⟩
        simp only [cut_cons, cut_nil, g3, g9, g10, g11]
        have hi0 : (0 : Int) ≤ i := Int.natCast_nonneg i
        have hd := fun h => drop_nth l i h
        have hnil : ¬ i < l.length → l.drop i = [] := fun h => List.drop_of_length_le (by omega)
        have hw1 : w ((i : Int) + 1) = ((i + 1 : Nat) : Int) := w_id (by omega)
        clear g3 g9 g10 g11
        repeat' (first | apply goSeq | apply goReg | apply goSeqN | apply goSeqR | apply goSkip | apply goRet | apply goNil | apply goBlock | apply goExit | apply goBlkN | apply goBlkR | apply goBlkE | apply goSeqE | apply goLoopR | apply goLoopE | refine xOp ?_ | refine xOp0 ?_ | refine xYes ?_ | refine xNo ?_ | refine xNoU ?_ | refine xIfT ?_ | refine xIfF ?_ | refine xIf ?_ ?_ | refine xSplit ?_ ?_ | refine xIfQ ?_ ?_ | refine xSplitQ ?_ ?_ | refine xBlkX ?_ | intro _)
        all_goals first
          | (refine goEnd hw (Pre.refl _) (by simp) (by simp [rs136]; exact rfl) rfl ?_; rw [← hgo]; simp [prodW, hd, hnil, *]; done)
          | (refine goLoopN (l.length - (i + 1)) (by omega) ⟨rfl, i + 1, _, rfl, by omega, rfl, rfl, rfl, rfl, ?_⟩; rw [← hgo]; simp [prodW, hd, *])
  · cases hv
@[simp] theorem F136_at (v : AV) (H : Hp) : F136 [v] H = (ints H v).map fun l => .int .i64 (sizeOf l) := rfl
/- Functions in short form. -/
/-! parquetry/split.may (3 parameters; calls 63 parquetry/spec.Right, 89 parquetry/mesh.Right, 91 parquetry/tensor.Right) -/
def A87 : Ann := { drop := fun i => false }
noncomputable def c87 : Cc :=
  (.seq (.reg false [⟨some 3, (Op.box 40 (Operand.tmp 0)), none⟩,
    ⟨some 6, (Op.assign (Operand.const (Value.int IntKind.i64 0))), none⟩])
  (.seq (.block 0 (.seq (.reg false [⟨some 8, (Op.load 40 (Operand.tmp 3)), none⟩,
    ⟨some 9, (Op.call { callee := (Callee.value (Operand.func 91)), args := #[(Operand.tmp 8)], argTypes := #[40] }), none⟩,
    ⟨some 10, (Op.unOp UnOp.not 4 (Operand.tmp 9)), none⟩,
    ⟨some 7, (Op.assign (Operand.tmp 10)), none⟩])
  (.cond (Operand.tmp 7)
    (.seq (.reg false [⟨some 6, (Op.assign (Operand.const (Value.int IntKind.i64 13))), none⟩])
    .ret)
    (.seq (.reg false [⟨some 12, (Op.move (Operand.tmp 1)), none⟩,
      ⟨some 13, (Op.call { callee := (Callee.value (Operand.func 89)), args := #[(Operand.tmp 12)], argTypes := #[22] }), none⟩,
      ⟨some 14, (Op.unOp UnOp.not 4 (Operand.tmp 13)), none⟩,
      ⟨some 15, (Op.move (Operand.tmp 14)), none⟩,
      ⟨some 16, (Op.move (Operand.tmp 1)), some (15, false)⟩,
      ⟨some 17, (Op.move (Operand.tmp 2)), some (15, false)⟩,
      ⟨some 18, (Op.fieldAddr 40 (Operand.tmp 3) 0), some (15, false)⟩,
      ⟨some 19, (Op.load 22 (Operand.tmp 18)), some (15, false)⟩,
      ⟨some 20, (Op.call { callee := (Callee.builtin Builtin.len), args := #[(Operand.tmp 19)], argTypes := #[22] }), some (15, false)⟩,
      ⟨some 21, (Op.call { callee := (Callee.value (Operand.func 63)), args := #[(Operand.tmp 16), (Operand.tmp 17), (Operand.tmp 20)], argTypes := #[22, 22, 3] }), some (15, false)⟩,
      ⟨some 22, (Op.unOp UnOp.not 4 (Operand.tmp 21)), some (15, false)⟩,
      ⟨some 23, (Op.pick (Operand.tmp 15) (Operand.const (Value.bool true)) (Operand.tmp 22)), none⟩,
      ⟨some 11, (Op.assign (Operand.tmp 23)), none⟩])
    (.cond (Operand.tmp 11)
      (.seq (.reg false [⟨some 6, (Op.assign (Operand.const (Value.int IntKind.i64 1))), none⟩])
      .ret)
      .skip)))))
  (.seq (.reg false [⟨some 6, (Op.assign (Operand.const (Value.int IntKind.i64 0))), none⟩])
  .ret)))
noncomputable def b87 : Code := Try.f87.body.getD .skip
theorem hb87 : Try.f87.body = some b87 := by kernel_rfl
theorem sh87 : shortC A87 b87 = c87 := by kernel_rfl
def rs87 : List ResultVar := [(ResultVar.tmp 6)]
theorem hr87 : Try.f87.results.toList = rs87 := by kernel_rfl
/-! parquetry/shape.Same (2 parameters; calls 129 slices.Equal[[]int,int]) -/
def A92 : Ann := { drop := fun i => false }
noncomputable def c92 : Cc :=
  (.seq (.reg false [⟨some 4, (Op.assign (Operand.const (Value.bool false))), none⟩])
  (.seq (.reg false [⟨some 5, (Op.move (Operand.tmp 0)), none⟩,
    ⟨some 6, (Op.move (Operand.tmp 1)), none⟩,
    ⟨some 7, (Op.call { callee := (Callee.value (Operand.func 129)), args := #[(Operand.tmp 5), (Operand.tmp 6)], argTypes := #[22, 22] }), none⟩,
    ⟨some 4, (Op.assign (Operand.tmp 7)), none⟩])
  .ret))
noncomputable def b92 : Code := Try.f92.body.getD .skip
theorem hb92 : Try.f92.body = some b92 := by kernel_rfl
theorem sh92 : shortC A92 b92 = c92 := by kernel_rfl
def rs92 : List ResultVar := [(ResultVar.tmp 4)]
theorem hr92 : Try.f92.results.toList = rs92 := by kernel_rfl
/-! parquetry/tensor.Same (2 parameters; calls 92 parquetry/shape.Same, 137 slices.Equal[[]int64,int64]) -/
def A93 : Ann := { drop := fun i => false }
noncomputable def c93 : Cc :=
  (.seq (.reg false [⟨some 2, (Op.box 40 (Operand.tmp 0)), none⟩,
    ⟨some 3, (Op.box 40 (Operand.tmp 1)), none⟩,
    ⟨some 4, (Op.assign (Operand.const (Value.bool false))), none⟩])
  (.seq (.reg false [⟨some 5, (Op.fieldAddr 40 (Operand.tmp 2) 0), none⟩,
    ⟨some 6, (Op.load 22 (Operand.tmp 5)), none⟩,
    ⟨some 7, (Op.fieldAddr 40 (Operand.tmp 3) 0), none⟩,
    ⟨some 8, (Op.load 22 (Operand.tmp 7)), none⟩,
    ⟨some 9, (Op.call { callee := (Callee.value (Operand.func 92)), args := #[(Operand.tmp 6), (Operand.tmp 8)], argTypes := #[22, 22] }), none⟩,
    ⟨some 10, (Op.move (Operand.tmp 9)), none⟩,
    ⟨some 11, (Op.fieldAddr 40 (Operand.tmp 2) 1), some (10, true)⟩,
    ⟨some 12, (Op.load 38 (Operand.tmp 11)), some (10, true)⟩,
    ⟨some 13, (Op.fieldAddr 40 (Operand.tmp 3) 1), some (10, true)⟩,
    ⟨some 14, (Op.load 38 (Operand.tmp 13)), some (10, true)⟩,
    ⟨some 15, (Op.call { callee := (Callee.value (Operand.func 137)), args := #[(Operand.tmp 12), (Operand.tmp 14)], argTypes := #[38, 38] }), some (10, true)⟩,
    ⟨some 16, (Op.pick (Operand.tmp 10) (Operand.tmp 15) (Operand.const (Value.bool false))), none⟩,
    ⟨some 4, (Op.assign (Operand.tmp 16)), none⟩])
  .ret))
noncomputable def b93 : Code := Try.f93.body.getD .skip
theorem hb93 : Try.f93.body = some b93 := by kernel_rfl
theorem sh93 : shortC A93 b93 = c93 := by kernel_rfl
def rs93 : List ResultVar := [(ResultVar.tmp 4)]
theorem hr93 : Try.f93.results.toList = rs93 := by kernel_rfl
/-! parquetry/shape.Index (2 parameters; calls 90 parquetry/shape.Right) -/
def A96 : Ann := { live := fun i => if i = 5 then [0, 5, 18, 19, 20] else [], drop := fun i => false }
noncomputable def c96 : Cc :=
  (.seq (.reg false [⟨some 4, (Op.assign (Operand.const (Value.int IntKind.i64 0))), none⟩])
  (.seq (.seq (.reg false [⟨some 8, (Op.move (Operand.tmp 0)), none⟩,
    ⟨some 9, (Op.call { callee := (Callee.value (Operand.func 90)), args := #[(Operand.tmp 8)], argTypes := #[22] }), none⟩,
    ⟨some 10, (Op.unOp UnOp.not 4 (Operand.tmp 9)), none⟩,
    ⟨some 11, (Op.move (Operand.tmp 10)), none⟩,
    ⟨some 12, (Op.move (Operand.tmp 1)), some (11, false)⟩,
    ⟨some 13, (Op.call { callee := (Callee.builtin Builtin.len), args := #[(Operand.tmp 12)], argTypes := #[22] }), some (11, false)⟩,
    ⟨some 14, (Op.move (Operand.tmp 0)), some (11, false)⟩,
    ⟨some 15, (Op.call { callee := (Callee.builtin Builtin.len), args := #[(Operand.tmp 14)], argTypes := #[22] }), some (11, false)⟩,
    ⟨some 16, (Op.binOp BinOp.neq 3 (Operand.tmp 13) (Operand.tmp 15) 3), some (11, false)⟩,
    ⟨some 17, (Op.pick (Operand.tmp 11) (Operand.const (Value.bool true)) (Operand.tmp 16)), none⟩])
  (.cond (Operand.tmp 17)
    (.seq (.reg false [⟨some 4, (Op.assign (Operand.const (Value.int IntKind.i64 (-1)))), none⟩])
    .ret)
    .skip))
  (.seq (.reg false [⟨some 5, (Op.assign (Operand.const (Value.int IntKind.i64 0))), none⟩])
  (.seq (.seq (.reg false [⟨some 18, (Op.move (Operand.tmp 1)), none⟩,
    ⟨some 19, (Op.call { callee := (Callee.builtin Builtin.len), args := #[(Operand.tmp 18)], argTypes := #[22] }), none⟩,
    ⟨some 20, (Op.move (Operand.const (Value.int IntKind.i64 0))), none⟩])
  (.block 0 (.loop [0, 5, 18, 19, 20] false
    (.seq (.reg false [⟨some 21, (Op.binOp BinOp.lss 3 (Operand.tmp 20) (Operand.tmp 19) 3), none⟩])
    (.seq (.cond (Operand.tmp 21)
      .skip
      (.exit 0))
    (.seq (.block 1 (.seq (.reg false [⟨some 22, (Op.move (Operand.tmp 20)), none⟩,
      ⟨some 23, (Op.indexAddr 22 (Operand.tmp 18) (Operand.tmp 20)), none⟩,
      ⟨some 24, (Op.load 3 (Operand.tmp 23)), none⟩,
      ⟨some 6, (Op.assign (Operand.tmp 22)), none⟩,
      ⟨some 7, (Op.assign (Operand.tmp 24)), none⟩])
    (.seq (.seq (.reg false [⟨some 25, (Op.move (Operand.tmp 7)), none⟩,
      ⟨some 26, (Op.binOp BinOp.lss 3 (Operand.tmp 25) (Operand.const (Value.int IntKind.i64 0)) 3), none⟩,
      ⟨some 27, (Op.move (Operand.tmp 26)), none⟩,
      ⟨some 28, (Op.move (Operand.tmp 7)), some (27, false)⟩,
      ⟨some 29, (Op.move (Operand.tmp 0)), some (27, false)⟩,
      ⟨some 30, (Op.move (Operand.tmp 6)), some (27, false)⟩,
      ⟨some 31, (Op.indexAddr 22 (Operand.tmp 29) (Operand.tmp 30)), some (27, false)⟩,
      ⟨some 32, (Op.load 3 (Operand.tmp 31)), some (27, false)⟩,
      ⟨some 33, (Op.binOp BinOp.geq 3 (Operand.tmp 28) (Operand.tmp 32) 3), some (27, false)⟩,
      ⟨some 34, (Op.pick (Operand.tmp 27) (Operand.const (Value.bool true)) (Operand.tmp 33)), none⟩])
    (.cond (Operand.tmp 34)
      (.seq (.reg false [⟨some 4, (Op.assign (Operand.const (Value.int IntKind.i64 (-1)))), none⟩])
      .ret)
      .skip))
    (.reg false [⟨some 35, (Op.move (Operand.tmp 5)), none⟩,
      ⟨some 36, (Op.move (Operand.tmp 0)), none⟩,
      ⟨some 37, (Op.move (Operand.tmp 6)), none⟩,
      ⟨some 38, (Op.indexAddr 22 (Operand.tmp 36) (Operand.tmp 37)), none⟩,
      ⟨some 39, (Op.load 3 (Operand.tmp 38)), none⟩,
      ⟨some 40, (Op.binOp BinOp.mul 3 (Operand.tmp 35) (Operand.tmp 39) 3), none⟩,
      ⟨some 41, (Op.move (Operand.tmp 7)), none⟩,
      ⟨some 42, (Op.binOp BinOp.add 3 (Operand.tmp 40) (Operand.tmp 41) 3), none⟩,
      ⟨some 5, (Op.assign (Operand.tmp 42)), none⟩]))))
    (.reg false [⟨some 43, (Op.binOp BinOp.add 3 (Operand.tmp 20) (Operand.const (Value.int IntKind.i64 1)) 3), none⟩,
      ⟨some 20, (Op.move (Operand.tmp 43)), none⟩])))))))
  (.seq (.reg false [⟨some 44, (Op.move (Operand.tmp 5)), none⟩,
    ⟨some 4, (Op.assign (Operand.tmp 44)), none⟩])
  .ret)))))
noncomputable def b96 : Code := Try.f96.body.getD .skip
theorem hb96 : Try.f96.body = some b96 := by kernel_rfl
theorem sh96 : shortC A96 b96 = c96 := by kernel_rfl
def rs96 : List ResultVar := [(ResultVar.tmp 4)]
theorem hr96 : Try.f96.results.toList = rs96 := by kernel_rfl
/-! parquetry/parquetryref1.Ints (2 parameters; calls none) -/
def A97 : Ann := { live := fun i => if i = 4 then [0, 1, 5] else [], drop := fun i => false }
noncomputable def c97 : Cc :=
  (.seq (.reg false [⟨some 4, (Op.assign (Operand.const (Value.bool false))), none⟩])
  (.seq (.seq (.reg false [⟨some 6, (Op.move (Operand.tmp 0)), none⟩,
    ⟨some 7, (Op.call { callee := (Callee.builtin Builtin.len), args := #[(Operand.tmp 6)], argTypes := #[22] }), none⟩,
    ⟨some 8, (Op.move (Operand.tmp 1)), none⟩,
    ⟨some 9, (Op.call { callee := (Callee.builtin Builtin.len), args := #[(Operand.tmp 8)], argTypes := #[22] }), none⟩,
    ⟨some 10, (Op.binOp BinOp.neq 3 (Operand.tmp 7) (Operand.tmp 9) 3), none⟩])
  (.cond (Operand.tmp 10)
    (.seq (.reg false [⟨some 4, (Op.assign (Operand.const (Value.bool false))), none⟩])
    .ret)
    .skip))
  (.seq (.seq (.reg false [⟨some 5, (Op.assign (Operand.const (Value.int IntKind.i64 0))), none⟩])
  (.block 0 (.loop [0, 1, 5] false
    (.seq (.seq (.reg false [⟨some 11, (Op.move (Operand.tmp 5)), none⟩,
      ⟨some 12, (Op.move (Operand.tmp 0)), none⟩,
      ⟨some 13, (Op.call { callee := (Callee.builtin Builtin.len), args := #[(Operand.tmp 12)], argTypes := #[22] }), none⟩,
      ⟨some 14, (Op.binOp BinOp.lss 3 (Operand.tmp 11) (Operand.tmp 13) 3), none⟩])
    (.cond (Operand.tmp 14)
      .skip
      (.exit 0)))
    (.seq (.block 1 (.seq (.reg false [⟨some 17, (Op.move (Operand.tmp 0)), none⟩,
      ⟨some 18, (Op.move (Operand.tmp 5)), none⟩,
      ⟨some 19, (Op.indexAddr 22 (Operand.tmp 17) (Operand.tmp 18)), none⟩,
      ⟨some 20, (Op.load 3 (Operand.tmp 19)), none⟩,
      ⟨some 21, (Op.move (Operand.tmp 1)), none⟩,
      ⟨some 22, (Op.move (Operand.tmp 5)), none⟩,
      ⟨some 23, (Op.indexAddr 22 (Operand.tmp 21) (Operand.tmp 22)), none⟩,
      ⟨some 24, (Op.load 3 (Operand.tmp 23)), none⟩,
      ⟨some 25, (Op.binOp BinOp.neq 3 (Operand.tmp 20) (Operand.tmp 24) 3), none⟩])
    (.cond (Operand.tmp 25)
      (.seq (.reg false [⟨some 4, (Op.assign (Operand.const (Value.bool false))), none⟩])
      .ret)
      .skip)))
    (.reg false [⟨some 15, (Op.move (Operand.tmp 5)), none⟩,
      ⟨some 16, (Op.binOp BinOp.add 3 (Operand.tmp 15) (Operand.const (Value.int IntKind.i64 1)) 3), none⟩,
      ⟨some 5, (Op.assign (Operand.tmp 16)), none⟩]))))))
  (.seq (.reg false [⟨some 4, (Op.assign (Operand.const (Value.bool true))), none⟩])
  .ret))))
noncomputable def b97 : Code := Try.f97.body.getD .skip
theorem hb97 : Try.f97.body = some b97 := by kernel_rfl
theorem sh97 : shortC A97 b97 = c97 := by kernel_rfl
def rs97 : List ResultVar := [(ResultVar.tmp 4)]
theorem hr97 : Try.f97.results.toList = rs97 := by kernel_rfl
/-! parquetry/parquetryref1.Same (2 parameters; calls 97 parquetry/parquetryref1.Ints) -/
def A39 : Ann := { live := fun i => if i = 4 then [2, 3, 5] else [], drop := fun i => false }
noncomputable def c39 : Cc :=
  (.seq (.reg false [⟨some 2, (Op.box 40 (Operand.tmp 0)), none⟩,
    ⟨some 3, (Op.box 40 (Operand.tmp 1)), none⟩,
    ⟨some 4, (Op.assign (Operand.const (Value.bool false))), none⟩])
  (.seq (.seq (.reg false [⟨some 6, (Op.fieldAddr 40 (Operand.tmp 2) 0), none⟩,
    ⟨some 7, (Op.load 22 (Operand.tmp 6)), none⟩,
    ⟨some 8, (Op.fieldAddr 40 (Operand.tmp 3) 0), none⟩,
    ⟨some 9, (Op.load 22 (Operand.tmp 8)), none⟩,
    ⟨some 10, (Op.call { callee := (Callee.value (Operand.func 97)), args := #[(Operand.tmp 7), (Operand.tmp 9)], argTypes := #[22, 22] }), none⟩,
    ⟨some 11, (Op.unOp UnOp.not 4 (Operand.tmp 10)), none⟩,
    ⟨some 12, (Op.move (Operand.tmp 11)), none⟩,
    ⟨some 13, (Op.fieldAddr 40 (Operand.tmp 2) 1), some (12, false)⟩,
    ⟨some 14, (Op.load 38 (Operand.tmp 13)), some (12, false)⟩,
    ⟨some 15, (Op.call { callee := (Callee.builtin Builtin.len), args := #[(Operand.tmp 14)], argTypes := #[38] }), some (12, false)⟩,
    ⟨some 16, (Op.fieldAddr 40 (Operand.tmp 3) 1), some (12, false)⟩,
    ⟨some 17, (Op.load 38 (Operand.tmp 16)), some (12, false)⟩,
    ⟨some 18, (Op.call { callee := (Callee.builtin Builtin.len), args := #[(Operand.tmp 17)], argTypes := #[38] }), some (12, false)⟩,
    ⟨some 19, (Op.binOp BinOp.neq 3 (Operand.tmp 15) (Operand.tmp 18) 3), some (12, false)⟩,
    ⟨some 20, (Op.pick (Operand.tmp 12) (Operand.const (Value.bool true)) (Operand.tmp 19)), none⟩])
  (.cond (Operand.tmp 20)
    (.seq (.reg false [⟨some 4, (Op.assign (Operand.const (Value.bool false))), none⟩])
    .ret)
    .skip))
  (.seq (.seq (.reg false [⟨some 5, (Op.assign (Operand.const (Value.int IntKind.i64 0))), none⟩])
  (.block 0 (.loop [2, 3, 5] false
    (.seq (.seq (.reg false [⟨some 21, (Op.move (Operand.tmp 5)), none⟩,
      ⟨some 22, (Op.fieldAddr 40 (Operand.tmp 2) 1), none⟩,
      ⟨some 23, (Op.load 38 (Operand.tmp 22)), none⟩,
      ⟨some 24, (Op.call { callee := (Callee.builtin Builtin.len), args := #[(Operand.tmp 23)], argTypes := #[38] }), none⟩,
      ⟨some 25, (Op.binOp BinOp.lss 3 (Operand.tmp 21) (Operand.tmp 24) 3), none⟩])
    (.cond (Operand.tmp 25)
      .skip
      (.exit 0)))
    (.seq (.block 1 (.seq (.reg false [⟨some 28, (Op.fieldAddr 40 (Operand.tmp 2) 1), none⟩,
      ⟨some 29, (Op.load 38 (Operand.tmp 28)), none⟩,
      ⟨some 30, (Op.move (Operand.tmp 5)), none⟩,
      ⟨some 31, (Op.indexAddr 38 (Operand.tmp 29) (Operand.tmp 30)), none⟩,
      ⟨some 32, (Op.load 2 (Operand.tmp 31)), none⟩,
      ⟨some 33, (Op.fieldAddr 40 (Operand.tmp 3) 1), none⟩,
      ⟨some 34, (Op.load 38 (Operand.tmp 33)), none⟩,
      ⟨some 35, (Op.move (Operand.tmp 5)), none⟩,
      ⟨some 36, (Op.indexAddr 38 (Operand.tmp 34) (Operand.tmp 35)), none⟩,
      ⟨some 37, (Op.load 2 (Operand.tmp 36)), none⟩,
      ⟨some 38, (Op.binOp BinOp.neq 2 (Operand.tmp 32) (Operand.tmp 37) 2), none⟩])
    (.cond (Operand.tmp 38)
      (.seq (.reg false [⟨some 4, (Op.assign (Operand.const (Value.bool false))), none⟩])
      .ret)
      .skip)))
    (.reg false [⟨some 26, (Op.move (Operand.tmp 5)), none⟩,
      ⟨some 27, (Op.binOp BinOp.add 3 (Operand.tmp 26) (Operand.const (Value.int IntKind.i64 1)) 3), none⟩,
      ⟨some 5, (Op.assign (Operand.tmp 27)), none⟩]))))))
  (.seq (.reg false [⟨some 4, (Op.assign (Operand.const (Value.bool true))), none⟩])
  .ret))))
noncomputable def b39 : Code := Try.f39.body.getD .skip
theorem hb39 : Try.f39.body = some b39 := by kernel_rfl
theorem sh39 : shortC A39 b39 = c39 := by kernel_rfl
def rs39 : List ResultVar := [(ResultVar.tmp 4)]
theorem hr39 : Try.f39.results.toList = rs39 := by kernel_rfl
/-! slices.Equal[[]int64,int64] (2 parameters; calls none) -/
def A137 : Ann := { live := fun i => if i = 4 then [0, 1, 12, 13] else [], drop := fun i => false }
noncomputable def c137 : Cc :=
  (.seq (.reg false [⟨some 4, (Op.assign (Operand.const (Value.bool false))), none⟩])
  (.seq (.seq (.reg false [⟨some 6, (Op.move (Operand.tmp 0)), none⟩,
    ⟨some 7, (Op.call { callee := (Callee.builtin Builtin.len), args := #[(Operand.tmp 6)], argTypes := #[38] }), none⟩,
    ⟨some 8, (Op.move (Operand.tmp 1)), none⟩,
    ⟨some 9, (Op.call { callee := (Callee.builtin Builtin.len), args := #[(Operand.tmp 8)], argTypes := #[38] }), none⟩,
    ⟨some 10, (Op.binOp BinOp.neq 3 (Operand.tmp 7) (Operand.tmp 9) 3), none⟩])
  (.cond (Operand.tmp 10)
    (.seq (.reg false [⟨some 4, (Op.assign (Operand.const (Value.bool false))), none⟩])
    .ret)
    .skip))
  (.seq (.seq (.reg false [⟨some 11, (Op.move (Operand.tmp 0)), none⟩,
    ⟨some 12, (Op.call { callee := (Callee.builtin Builtin.len), args := #[(Operand.tmp 11)], argTypes := #[38] }), none⟩,
    ⟨some 13, (Op.move (Operand.const (Value.int IntKind.i64 0))), none⟩])
  (.block 0 (.loop [0, 1, 12, 13] false
    (.seq (.reg false [⟨some 14, (Op.binOp BinOp.lss 3 (Operand.tmp 13) (Operand.tmp 12) 3), none⟩])
    (.seq (.cond (Operand.tmp 14)
      .skip
      (.exit 0))
    (.seq (.block 1 (.seq (.reg false [⟨some 15, (Op.move (Operand.tmp 13)), none⟩,
      ⟨some 5, (Op.assign (Operand.tmp 15)), none⟩])
    (.seq (.reg false [⟨some 16, (Op.move (Operand.tmp 0)), none⟩,
      ⟨some 17, (Op.move (Operand.tmp 5)), none⟩,
      ⟨some 18, (Op.indexAddr 38 (Operand.tmp 16) (Operand.tmp 17)), none⟩,
      ⟨some 19, (Op.load 2 (Operand.tmp 18)), none⟩,
      ⟨some 20, (Op.move (Operand.tmp 1)), none⟩,
      ⟨some 21, (Op.move (Operand.tmp 5)), none⟩,
      ⟨some 22, (Op.indexAddr 38 (Operand.tmp 20) (Operand.tmp 21)), none⟩,
      ⟨some 23, (Op.load 2 (Operand.tmp 22)), none⟩,
      ⟨some 24, (Op.binOp BinOp.neq 2 (Operand.tmp 19) (Operand.tmp 23) 2), none⟩])
    (.cond (Operand.tmp 24)
      (.seq (.reg false [⟨some 4, (Op.assign (Operand.const (Value.bool false))), none⟩])
      .ret)
      .skip))))
    (.reg false [⟨some 25, (Op.binOp BinOp.add 3 (Operand.tmp 13) (Operand.const (Value.int IntKind.i64 1)) 3), none⟩,
      ⟨some 13, (Op.move (Operand.tmp 25)), none⟩])))))))
  (.seq (.reg false [⟨some 4, (Op.assign (Operand.const (Value.bool true))), none⟩])
  .ret))))
noncomputable def b137 : Code := Try.f137.body.getD .skip
theorem hb137 : Try.f137.body = some b137 := by kernel_rfl
theorem sh137 : shortC A137 b137 = c137 := by kernel_rfl
def rs137 : List ResultVar := [(ResultVar.tmp 4)]
theorem hr137 : Try.f137.results.toList = rs137 := by kernel_rfl
/- Walks: what reads shapes and tensors. -/
theorem alen38 (v : AV) : alen T 38 v = alenS v := by simp [alen, D38]
theorem aidx38 (v i : AV) : aidx T 38 v i = aidxS 1 v i := by simp [aidx, D38, T2]
def F97 (args : List AV) (H : Hp) : Option AV := match args with
  | [a, b] => (ints H a).bind fun l => (ints H b).map fun m => .bool (sameL l m)
  | _ => none
theorem snd97 : Sound Try.prog 97 (FSem.pure F97).run := by
  refine sound_of hT (EOK_nil _) mixed A97 Try.func97 hb97 (by kernel_rfl) (by kernel_rfl) (by kernel_rfl) (by kernel_rfl) sh97 2 (by kernel_rfl) rs97 hr97 ?_
  intro args H r H' hw h
  obtain ⟨rfl, hv⟩ := pureAt h
  clear h
  unfold F97 at hv
  split at hv
  · rename_i v u
    obtain ⟨l, hl, hv⟩ := Option.bind_eq_some_iff.1 hv
    obtain ⟨q, hq, hv⟩ := Option.map_eq_some_iff.1 hv
    cases hv
    have hlen := alenS_ints hl
    have hlen2 := alenS_ints hq
    have hb := ints_len hl
    have hix := aidxS_ints hl .i64
    have hld := aload_nth T3 rfl hl
    have hix2 := aidxS_ints hq .i64
    have hld2 := aload_nth T3 rfl hq
    refine ⟨rfl, go ?_⟩
    unfold c97
    simp only [argSl]
    simp only [← aidx22, ← alen22] at hix hlen hix2 hlen2
    repeat' (first | apply goSeq | apply goReg | apply goSeqN | apply goSeqR | apply goSkip | apply goRet | apply goNil | apply goBlock | apply goExit | apply goBlkN | apply goBlkR | apply goBlkE | apply goSeqE | apply goLoopR | apply goLoopE | refine xOp ?_ | refine xOp0 ?_ | refine xYes ?_ | refine xNo ?_ | refine xNoU ?_ | refine xIfT ?_ | refine xIfF ?_ | refine xIf ?_ ?_ | refine xSplit ?_ ?_ | refine xIfQ ?_ ?_ | refine xSplitQ ?_ ?_ | refine xBlkX ?_ | intro _)
    · rename_i hne
      refine goEnd hw (Pre.refl _) (by simp) (by simp [rs97]; exact rfl) rfl ?_
      have : ¬ l.length = q.length := by simp at hne; omega
      simp [sameL, this]
    · rename_i hne
      have hll : l.length = q.length := by simp at hne; omega
      have hll' : (q.length : Int) = l.length := by omega
      have hres : sameL l q = sameGo l q := by simp [sameL, hll]
      rw [hres]
      clear hne hv hres hlen2
      refine goLoop (fun m s1 H1 => H1 = H' ∧ ∃ (i : Nat), m = l.length - i ∧ i ≤ l.length ∧ get s1 0 = v ∧ get s1 1 = u ∧ get s1 5 = .int .i64 i ∧ sameGo (l.drop i) (q.drop i) = sameGo l q) l.length ?_ ?_
      · exact ⟨rfl, 0, rfl, Nat.zero_le _, rfl, rfl, rfl, by simp⟩
      · rintro m s1 H1 ⟨rfl, i, hm, hi, g3, g9, g10, hgo⟩
        simp only [cut_cons, cut_nil, g3, g9, g10]
        have hi0 : (0 : Int) ≤ i := Int.natCast_nonneg i
        have hd := fun h => drop_nth l i h
        have hnil : ¬ i < l.length → l.drop i = [] := fun h => List.drop_of_length_le (by omega)
        have hw1 : w ((i : Int) + 1) = ((i + 1 : Nat) : Int) := w_id (by omega)
        clear g3 g9 g10
        rw [hll'] at hix2 hld2
        replace hgo := Hide.mk hgo
        clear hll hll'
        repeat' (first | apply goSeq | apply goReg | apply goSeqN | apply goSeqR | apply goSkip | apply goRet | apply goNil | apply goBlock | apply goExit | apply goBlkN | apply goBlkR | apply goBlkE | apply goSeqE | apply goLoopR | apply goLoopE | refine xOp ?_ | refine xOp0 ?_ | refine xYes ?_ | refine xNo ?_ | refine xNoU ?_ | refine xIfT ?_ | refine xIfF ?_ | refine xIf ?_ ?_ | refine xSplit ?_ ?_ | refine xIfQ ?_ ?_ | refine xSplitQ ?_ ?_ | refine xBlkX ?_ | intro _)
        all_goals replace hgo := hgo.out
        all_goals (try simp only [Bool.not_eq_true', decide_eq_false_iff_not, Bool.not_eq_false', decide_eq_true_eq] at *)
        all_goals first
          | (refine goEnd hw (Pre.refl _) (by simp) (by simp [rs97]; exact rfl) rfl ?_; rw [← hgo]; simp [sameGo, nth_drop, hd, hnil, *]; done)
          | (refine goLoopN (l.length - (i + 1)) (by omega) ⟨rfl, i + 1, rfl, by omega, rfl, rfl, rfl, ?_⟩; rw [← hgo]; simp [sameGo, nth_drop, hd, *])
  · cases hv
@[simp] theorem F97_at (a b : AV) (H : Hp) : F97 [a, b] H = (ints H a).bind fun l => (ints H b).map fun m => .bool (sameL l m) := rfl
def F137 (args : List AV) (H : Hp) : Option AV := match args with
  | [a, b] => (ints H a).bind fun l => (ints H b).map fun m => .bool (sameL l m)
  | _ => none
theorem snd137 : Sound Try.prog 137 (FSem.pure F137).run := by
  refine sound_of hT (EOK_nil _) mixed A137 Try.func137 hb137 (by kernel_rfl) (by kernel_rfl) (by kernel_rfl) (by kernel_rfl) sh137 2 (by kernel_rfl) rs137 hr137 ?_
  intro args H r H' hw h
  obtain ⟨rfl, hv⟩ := pureAt h
  clear h
  unfold F137 at hv
  split at hv
  · rename_i v u
    obtain ⟨l, hl, hv⟩ := Option.bind_eq_some_iff.1 hv
    obtain ⟨q, hq, hv⟩ := Option.map_eq_some_iff.1 hv
    cases hv
    have hlen := alenS_ints hl
    have hlen2 := alenS_ints hq
    have hb := ints_len hl
    have hix := aidxS_ints hl .i64
    have hld := aload_nth T2 rfl hl
    have hix2 := aidxS_ints hq .i64
    have hld2 := aload_nth T2 rfl hq
    refine ⟨rfl, go ?_⟩
    unfold c137
    simp only [argSl]
    simp only [← aidx38, ← alen38] at hix hlen hix2 hlen2
    repeat' (first | apply goSeq | apply goReg | apply goSeqN | apply goSeqR | apply goSkip | apply goRet | apply goNil | apply goBlock | apply goExit | apply goBlkN | apply goBlkR | apply goBlkE | apply goSeqE | apply goLoopR | apply goLoopE | refine xOp ?_ | refine xOp0 ?_ | refine xYes ?_ | refine xNo ?_ | refine xNoU ?_ | refine xIfT ?_ | refine xIfF ?_ | refine xIf ?_ ?_ | refine xSplit ?_ ?_ | refine xIfQ ?_ ?_ | refine xSplitQ ?_ ?_ | refine xBlkX ?_ | intro _)
    · rename_i hne
      refine goEnd hw (Pre.refl _) (by simp) (by simp [rs137]; exact rfl) rfl ?_
      have : ¬ l.length = q.length := by simp at hne; omega
      simp [sameL, this]
    · rename_i hne
      have hll : l.length = q.length := by simp at hne; omega
      have hll' : (q.length : Int) = l.length := by omega
      have hres : sameL l q = sameGo l q := by simp [sameL, hll]
      rw [hres]
      clear hne hv hres hlen2
      refine goLoop (fun m s1 H1 => H1 = H' ∧ ∃ (i : Nat), m = l.length - i ∧ i ≤ l.length ∧ get s1 0 = v ∧ get s1 1 = u ∧ get s1 12 = .int .i64 l.length ∧ get s1 13 = .int .i64 i ∧ sameGo (l.drop i) (q.drop i) = sameGo l q) l.length ?_ ?_
      · exact ⟨rfl, 0, rfl, Nat.zero_le _, rfl, rfl, rfl, rfl, by simp⟩
      · rintro m s1 H1 ⟨rfl, i, hm, hi, g3, g9, g10, g11, hgo⟩
        simp only [cut_cons, cut_nil, g3, g9, g10, g11]
        have hi0 : (0 : Int) ≤ i := Int.natCast_nonneg i
        have hd := fun h => drop_nth l i h
        have hnil : ¬ i < l.length → l.drop i = [] := fun h => List.drop_of_length_le (by omega)
        have hw1 : w ((i : Int) + 1) = ((i + 1 : Nat) : Int) := w_id (by omega)
        clear g3 g9 g10 g11
        rw [hll'] at hix2 hld2
        replace hgo := Hide.mk hgo
        clear hll hll'
        repeat' (first | apply goSeq | apply goReg | apply goSeqN | apply goSeqR | apply goSkip | apply goRet | apply goNil | apply goBlock | apply goExit | apply goBlkN | apply goBlkR | apply goBlkE | apply goSeqE | apply goLoopR | apply goLoopE | refine xOp ?_ | refine xOp0 ?_ | refine xYes ?_ | refine xNo ?_ | refine xNoU ?_ | refine xIfT ?_ | refine xIfF ?_ | refine xIf ?_ ?_ | refine xSplit ?_ ?_ | refine xIfQ ?_ ?_ | refine xSplitQ ?_ ?_ | refine xBlkX ?_ | intro _)
        all_goals replace hgo := hgo.out
        all_goals (try simp only [Bool.not_eq_true', decide_eq_false_iff_not, Bool.not_eq_false', decide_eq_true_eq] at *)
        all_goals first
          | (refine goEnd hw (Pre.refl _) (by simp) (by simp [rs137]; exact rfl) rfl ?_; rw [← hgo]; simp [sameGo, nth_drop, hd, hnil, *]; done)
          | (refine goLoopN (l.length - (i + 1)) (by omega) ⟨rfl, i + 1, rfl, by omega, rfl, rfl, rfl, rfl, ?_⟩; rw [← hgo]; simp [sameGo, nth_drop, hd, *])
  · cases hv
@[simp] theorem F137_at (a b : AV) (H : Hp) : F137 [a, b] H = (ints H a).bind fun l => (ints H b).map fun m => .bool (sameL l m) := rfl
def F92 (args : List AV) (H : Hp) : Option AV := match args with
  | [a, b] => (ints H a).bind fun l => (ints H b).map fun m => .bool (sameL l m)
  | _ => none
theorem snd92 : Sound Try.prog 92 (FSem.pure F92).run := by
  refine sound_of hT (EOK_cons snd129 (EOK_nil _)) mixed A92 Try.func92 hb92 (by kernel_rfl) (by kernel_rfl) (by kernel_rfl) (by kernel_rfl) sh92 2 (by kernel_rfl) rs92 hr92 ?_
  intro args H r H' hw h
  obtain ⟨rfl, hv⟩ := pureAt h
  clear h
  unfold F92 at hv
  split at hv
  · rename_i v u
    obtain ⟨l, hl, hv⟩ := Option.bind_eq_some_iff.1 hv
    obtain ⟨q, hq, hv⟩ := Option.map_eq_some_iff.1 hv
    cases hv
    refine ⟨rfl, go ?_⟩
    unfold c92
    simp only [argSl]
    repeat' (first | apply goSeq | apply goReg | apply goSeqN | apply goSeqR | apply goSkip | apply goRet | apply goNil | apply goBlock | apply goExit | apply goBlkN | apply goBlkR | apply goBlkE | apply goSeqE | apply goLoopR | apply goLoopE | refine xOp ?_ | refine xOp0 ?_ | refine xYes ?_ | refine xNo ?_ | refine xNoU ?_ | refine xIfT ?_ | refine xIfF ?_ | refine xIf ?_ ?_ | refine xSplit ?_ ?_ | refine xIfQ ?_ ?_ | refine xSplitQ ?_ ?_ | refine xBlkX ?_ | intro _)
    exact goEnd hw (Pre.refl _) (by simp) (by simp [rs92]; exact rfl) rfl rfl
  · cases hv
@[simp] theorem F92_at (a b : AV) (H : Hp) : F92 [a, b] H = (ints H a).bind fun l => (ints H b).map fun m => .bool (sameL l m) := rfl
/-- The number of a place; -1: there is none. -/
def idxL (sz l : List Int) : Int := if shapeOK sz = false ∨ l.length ≠ sz.length then -1 else ofGo 0 sz l
def F96 (args : List AV) (H : Hp) : Option AV := match args with
  | [a, b] => (ints H a).bind fun sz => (ints H b).map fun l => .int .i64 (idxL sz l)
  | _ => none
set_option maxHeartbeats 1000000 in
theorem snd96 : Sound Try.prog 96 (FSem.pure F96).run := by
  refine sound_of hT (EOK_cons snd90 (EOK_nil _)) mixed A96 Try.func96 hb96 (by kernel_rfl) (by kernel_rfl) (by kernel_rfl) (by kernel_rfl) sh96 2 (by kernel_rfl) rs96 hr96 ?_
  intro args H r H' hw h
  obtain ⟨rfl, hv⟩ := pureAt h
  clear h
  unfold F96 at hv
  split at hv
  · rename_i a v
    obtain ⟨sz, hsz, hv⟩ := Option.bind_eq_some_iff.1 hv
    obtain ⟨l, hl, hv⟩ := Option.map_eq_some_iff.1 hv
    cases hv
    have hlen := alenS_ints hl
    have hb := ints_len hl
    have hlen2 := alenS_ints hsz
    have hix := aidxS_ints hl .i64
    have hld := aload_nth T3 rfl hl
    have hix2 := aidxS_ints hsz .i64
    have hld2 := aload_nth T3 rfl hsz
    refine ⟨rfl, go ?_⟩
    unfold c96
    simp only [argSl]
    simp only [← aidx22, ← alen22] at hix hlen hix2 hlen2
    rcases hm : shapeOK sz with _ | _
    · repeat' (first | apply goSeq | apply goReg | apply goSeqN | apply goSeqR | apply goSkip | apply goRet | apply goNil | apply goBlock | apply goExit | apply goBlkN | apply goBlkR | apply goBlkE | apply goSeqE | apply goLoopR | apply goLoopE | refine xOp ?_ | refine xOp0 ?_ | refine xYes ?_ | refine xNo ?_ | refine xNoU ?_ | refine xIfT ?_ | refine xIfF ?_ | refine xIf ?_ ?_ | refine xSplit ?_ ?_ | refine xIfQ ?_ ?_ | refine xSplitQ ?_ ?_ | refine xBlkX ?_ | intro _)
      refine goEnd hw (Pre.refl _) (by simp) (by simp [rs96]; exact rfl) rfl ?_
      simp [idxL, hm]
    · by_cases hll : l.length = sz.length
      · have hres : idxL sz l = ofGo 0 sz l := by simp [idxL, hm, hll]
        have hll' : (sz.length : Int) = l.length := by omega
        rw [hres]
        rw [hll'] at hix2 hld2 hlen2
        have hll'' : l.length = sz.length := hll
        clear hll hll' hres
        replace hll'' := Hide.mk hll''
        repeat' (first | apply goSeq | apply goReg | apply goSeqN | apply goSeqR | apply goSkip | apply goRet | apply goNil | apply goBlock | apply goExit | apply goBlkN | apply goBlkR | apply goBlkE | apply goSeqE | apply goLoopR | apply goLoopE | refine xOp ?_ | refine xOp0 ?_ | refine xYes ?_ | refine xNo ?_ | refine xNoU ?_ | refine xIfT ?_ | refine xIfF ?_ | refine xIf ?_ ?_ | refine xSplit ?_ ?_ | refine xIfQ ?_ ?_ | refine xSplitQ ?_ ?_ | refine xBlkX ?_ | intro _)
        refine goLoop (fun m s1 H1 => H1 = H' ∧ ∃ (i : Nat) (d : Int), m = l.length - i ∧ i ≤ l.length ∧ get s1 0 = a ∧ get s1 5 = .int .i64 d ∧ get s1 18 = v ∧ get s1 19 = .int .i64 l.length ∧ get s1 20 = .int .i64 i ∧ ofGo d (sz.drop i) (l.drop i) = ofGo 0 sz l) l.length ?_ ?_
        · exact ⟨rfl, 0, 0, rfl, Nat.zero_le _, rfl, rfl, rfl, rfl, rfl, by simp⟩
        · rintro m s1 H1 ⟨rfl, i, d, hmm, hi, g1, g2, g3, g4, g5, hgo⟩
          simp only [cut_cons, cut_nil, g1, g2, g3, g4, g5]
          clear g1 g2 g3 g4 g5
          have hi0 : (0 : Int) ≤ i := Int.natCast_nonneg i
          have hw1 : w ((i : Int) + 1) = ((i + 1 : Nat) : Int) := w_id (by omega)
          have hd := fun h => drop_nth l i h
          have hd2 : i < l.length → sz.drop i = nth sz i :: sz.drop (i + 1) := fun h => drop_nth sz i (by have := hll''.out; omega)
          have hnil : ¬ i < l.length → l.drop i = [] := fun h => List.drop_of_length_le (by omega)
          replace hgo := Hide.mk hgo
          replace hd := Hide.mk hd
          replace hd2 := Hide.mk hd2
          replace hnil := Hide.mk hnil
          repeat' (first | apply goSeq | apply goReg | apply goSeqN | apply goSeqR | apply goSkip | apply goRet | apply goNil | apply goBlock | apply goExit | apply goBlkN | apply goBlkR | apply goBlkE | apply goSeqE | apply goLoopR | apply goLoopE | refine xOp ?_ | refine xOp0 ?_ | refine xYes ?_ | refine xNo ?_ | refine xNoU ?_ | refine xIfT ?_ | refine xIfF ?_ | refine xIf ?_ ?_ | refine xSplit ?_ ?_ | refine xIfQ ?_ ?_ | refine xSplitQ ?_ ?_ | refine xBlkX ?_ | intro _)
          all_goals replace hgo := hgo.out
          all_goals replace hd := hd.out
          all_goals replace hd2 := hd2.out
          all_goals (try simp only [Bool.not_eq_true', decide_eq_false_iff_not, Bool.not_eq_false', decide_eq_true_eq] at *)
          all_goals first
            | (refine goEnd hw (Pre.refl _) (by simp) (by simp [rs96]; exact rfl) rfl ?_; rw [← hgo, hd (by assumption), hd2 (by assumption)]; simp [ofGo, *]; done)
            | (refine goEnd hw (Pre.refl _) (by simp) (by simp [rs96]; exact rfl) rfl ?_; rw [← hgo, hnil.out (by assumption)]; cases sz.drop i <;> simp [ofGo]; done)
            | (refine goLoopN (l.length - (i + 1)) (by omega) ⟨rfl, i + 1, _, rfl, by omega, rfl, rfl, rfl, rfl, rfl, ?_⟩; rw [← hgo, hd (by assumption), hd2 (by assumption)]; simp [ofGo, *])
      · repeat' (first | apply goSeq | apply goReg | apply goSeqN | apply goSeqR | apply goSkip | apply goRet | apply goNil | apply goBlock | apply goExit | apply goBlkN | apply goBlkR | apply goBlkE | apply goSeqE | apply goLoopR | apply goLoopE | refine xOp ?_ | refine xOp0 ?_ | refine xYes ?_ | refine xNo ?_ | refine xNoU ?_ | refine xIfT ?_ | refine xIfF ?_ | refine xIf ?_ ?_ | refine xSplit ?_ ?_ | refine xIfQ ?_ ?_ | refine xSplitQ ?_ ?_ | refine xBlkX ?_ | intro _)
        · refine goEnd hw (Pre.refl _) (by simp) (by simp [rs96]; exact rfl) rfl ?_
          simp [idxL, hm, hll]
        · rename_i hc
          simp at hc
          omega
  · cases hv
@[simp] theorem F96_at (a b : AV) (H : Hp) : F96 [a, b] H = (ints H a).bind fun sz => (ints H b).map fun l => .int .i64 (idxL sz l) := rfl
theorem prodW_zero : ∀ (l : List Int), prodW 0 l = 0 := by
  intro l
  induction l with
  | nil => rfl
  | cons k l ih =>
    simp only [prodW, Int.zero_mul]
    rw [show w 0 = 0 by decide]
    exact ih
theorem prodW_has : ∀ (l : List Int) (n : Int), (∃ j : Nat, j < l.length ∧ nth l j = 0) → prodW n l = 0 := by
  intro l
  induction l with
  | nil => rintro n ⟨j, hj, _⟩; simp at hj
  | cons k l ih =>
    rintro n ⟨j, hj, h0⟩
    simp only [prodW]
    cases j with
    | zero =>
      have : k = 0 := by simpa [nth] using h0
      rw [this, Int.mul_zero, show w 0 = 0 by decide]
      exact prodW_zero l
    | succ j => exact ih _ ⟨j, by simpa using hj, by simpa [nth] using h0⟩
theorem shapeGo_rng : ∀ (l : List Int) (n : Int), shapeGo n l = true → ∀ j : Nat, j < l.length → 0 ≤ nth l j ∧ nth l j ≤ 32 := by
  intro l
  induction l with
  | nil => intro n _ j hj; simp at hj
  | cons k l ih =>
    intro n h j hj
    simp only [shapeGo] at h
    split at h
    · cases h
    · cases j with
      | zero => simp [nth]; omega
      | succ j => simpa [nth] using ih _ h j (by simpa using hj)
theorem shapeOK_rng {l : List Int} (h : shapeOK l = true) : l.length ≤ 4 ∧ ∀ j : Nat, j < l.length → 0 ≤ nth l j ∧ nth l j ≤ 32 := by
  unfold shapeOK at h
  split at h
  · cases h
  · exact ⟨by omega, shapeGo_rng l 1 h⟩
theorem shape_pos {l : List Int} (h : shapeOK l = true) (hp : 0 < prodW 1 l) : l.length ≤ 4 ∧ ∀ j : Nat, j < l.length → 1 ≤ nth l j ∧ nth l j ≤ 32 := by
  obtain ⟨h4, hr⟩ := shapeOK_rng h
  refine ⟨h4, fun j hj => ?_⟩
  have := hr j hj
  by_cases h0 : nth l j = 0
  · have := prodW_has l 1 ⟨j, hj, h0⟩; omega
  · omega
def F95 (args : List AV) (H : Hp) : Option (AV × Hp) := match args with
  | [a, .int .i64 d] => (ints H a).map fun sz => if d < 0 ∨ sizeOf sz ≤ d then (.nilS, H) else mkF H (meshAt sz d)
  | _ => none
set_option maxHeartbeats 1000000 in
theorem snd95 : Sound Try.prog 95 (FSem.eff F95).run := by
  refine sound_of hT (EOK_cons snd136 (EOK_nil _)) mixed A95 Try.func95 hb95 (by kernel_rfl) (by kernel_rfl) (by kernel_rfl) (by kernel_rfl) sh95 2 (by kernel_rfl) rs95 hr95 ?_
  intro args H r H' hw h
  have hv : F95 args H = some (r, H') := h
  clear h
  unfold F95 at hv
  split at hv
  · rename_i v d
    obtain ⟨l, hl, hv⟩ := Option.map_eq_some_iff.1 hv
    have hlen := alenS_ints hl
    have hb := ints_len hl
    have hix := aidxS_ints hl .i64
    have hld := fun {H1 : Hp} (he : Pre H H1) => aload_nth T3 rfl (ints_ext he hl)
    refine ⟨rfl, go ?_⟩
    unfold c95
    simp only [argSl]
    simp only [← aidx22, ← alen22] at hix hlen
    replace hv := Hide.mk hv
    repeat' (first | apply goSeq | apply goReg | apply goSeqN | apply goSeqR | apply goSkip | apply goRet | apply goNil | apply goBlock | apply goExit | apply goBlkN | apply goBlkR | apply goBlkE | apply goSeqE | apply goLoopR | apply goLoopE | refine xOp ?_ | refine xOp0 ?_ | refine xYes ?_ | refine xNo ?_ | refine xNoU ?_ | refine xIfT ?_ | refine xIfF ?_ | refine xIf ?_ ?_ | refine xSplit ?_ ?_ | refine xIfQ ?_ ?_ | refine xSplitQ ?_ ?_ | refine xBlkX ?_ | intro _)
    · rename_i h1
      replace hv := hv.out
      rw [if_pos (.inl h1)] at hv
      exact goEndS (l := []) hw (Ext.refl hw) (.inl ⟨rfl, rfl⟩) (by simp) (by simp [rs95]) rfl hv
    · rename_i h1 h2
      replace hv := hv.out
      rw [if_pos (.inr h2)] at hv
      exact goEndS (l := []) hw (Ext.refl hw) (.inl ⟨rfl, rfl⟩) (by simp) (by simp [rs95]) rfl hv
    · rename_i h1 h2
      replace hv := hv.out
      rw [if_neg (by omega)] at hv
      have hm : shapeOK l = true := by
        rcases hmm : shapeOK l with _ | _
        · exfalso; simp [sizeOf, hmm] at h2; omega
        · rfl
      obtain ⟨h3, hpos⟩ := shape_pos hm (by have : sizeOf l = prodW 1 l := by simp [sizeOf, hm]
                                            omega)
      obtain ⟨u, H1, e, ho, he⟩ := make_own (Ext.refl hw) l.length (by omega)
      refine goOp (v := u) (H' := H1) rfl (by simp; exact e) ?_
      replace hv := Hide.mk hv
      repeat' (first | apply goSeq | apply goReg | apply goSeqN | apply goSeqR | apply goSkip | apply goRet | apply goNil | apply goBlock | apply goExit | apply goBlkN | apply goBlkR | apply goBlkE | apply goSeqE | apply goLoopR | apply goLoopE | refine xOp ?_ | refine xOp0 ?_ | refine xYes ?_ | refine xNo ?_ | refine xNoU ?_ | refine xIfT ?_ | refine xIfF ?_ | refine xIf ?_ ?_ | refine xSplit ?_ ?_ | refine xIfQ ?_ ?_ | refine xSplitQ ?_ ?_ | refine xBlkX ?_ | intro _)
      have hwl : w ((l.length : Int) - 1) = (l.length : Int) - 1 := w_id (by omega)
      rw [hwl]
      refine goLoop (fun m s1 H1 => Ext H H1 ∧ ∃ (d1 : Int) (out : List Int) (u : AV), m ≤ l.length ∧ get s1 0 = v ∧ get s1 1 = .int .i64 d1 ∧ get s1 5 = u ∧ get s1 6 = .int .i64 ((m : Int) - 1) ∧ OwnF H H1 u out ∧ out.length = l.length ∧ atW l m d1 out = meshAt l d) l.length ?_ ?_
      · exact ⟨he, d, _, u, Nat.le_refl _, rfl, rfl, rfl, rfl, ho, by simp, rfl⟩
      · clear he ho e hwl h1 h2 hm
        rintro m s1 H1 ⟨he, d1, out, u, hi, g1, g2, g3, g4, ho, hol, hgo⟩
        have hixu := aidxS_ints (ints_of_ownF ho (by omega)) .i64
        simp only [← aidx22] at hixu
        have hl1 := hld he.pre
        cases m with
        | zero =>
          simp only [cut_cons, cut_nil, g1, g2, g3, g4]
          clear g1 g2 g3 g4
          replace ho := Hide.mk ho
          replace hgo := Hide.mk hgo
          repeat' (first | apply goSeq | apply goReg | apply goSeqN | apply goSeqR | apply goSkip | apply goRet | apply goNil | apply goBlock | apply goExit | apply goBlkN | apply goBlkR | apply goBlkE | apply goSeqE | apply goLoopR | apply goLoopE | refine xOp ?_ | refine xOp0 ?_ | refine xYes ?_ | refine xNo ?_ | refine xNoU ?_ | refine xIfT ?_ | refine xIfF ?_ | refine xIf ?_ ?_ | refine xSplit ?_ ?_ | refine xIfQ ?_ ?_ | refine xSplitQ ?_ ?_ | refine xBlkX ?_ | intro _)
          refine goEndF hw he ho.out (by simp) (by simp [rs95]) rfl ?_
          rw [← hv.out, ← hgo.out]
          rfl
        | succ m =>
          rw [show (((m + 1 : Nat) : Int) - 1) = (m : Int) by omega] at g4
          simp only [cut_cons, cut_nil, g1, g2, g3, g4]
          clear g1 g2 g3 g4
          have hm0 : (0 : Int) ≤ m := Int.natCast_nonneg m
          have hml : m < l.length := by omega
          have hne : ¬ nth l m = 0 := by have := hpos m hml; omega
          have hwm : w ((m : Int) - 1) = (m : Int) - 1 := w_id (by omega)
          replace ho := Hide.mk ho
          replace hgo := Hide.mk hgo
          repeat' (first | apply goSeq | apply goReg | apply goSeqN | apply goSeqR | apply goSkip | apply goRet | apply goNil | apply goBlock | apply goExit | apply goBlkN | apply goBlkR | apply goBlkE | apply goSeqE | apply goLoopR | apply goLoopE | refine xOp ?_ | refine xOp0 ?_ | refine xYes ?_ | refine xNo ?_ | refine xNoU ?_ | refine xIfT ?_ | refine xIfF ?_ | refine xIf ?_ ?_ | refine xSplit ?_ ?_ | refine xIfQ ?_ ?_ | refine xSplitQ ?_ ?_ | refine xBlkX ?_ | intro _)
          obtain ⟨H2, e, ho', he'⟩ := store_own hw he ho.out m (by omega) (d1.tmod (nth l m))
          have hl2 := hld he'.pre
          refine goOp0 (v := .bad) (H' := H2) rfl (by simp [e]) ?_
          replace ho' := Hide.mk ho'
          clear e
          repeat' (first | apply goSeq | apply goReg | apply goSeqN | apply goSeqR | apply goSkip | apply goRet | apply goNil | apply goBlock | apply goExit | apply goBlkN | apply goBlkR | apply goBlkE | apply goSeqE | apply goLoopR | apply goLoopE | refine xOp ?_ | refine xOp0 ?_ | refine xYes ?_ | refine xNo ?_ | refine xNoU ?_ | refine xIfT ?_ | refine xIfF ?_ | refine xIf ?_ ?_ | refine xSplit ?_ ?_ | refine xIfQ ?_ ?_ | refine xSplitQ ?_ ?_ | refine xBlkX ?_ | intro _)
          exact goLoopN m (by omega) ⟨he', _, _, u, by omega, rfl, rfl, rfl, rfl, ho'.out, by simp [hol], by rw [← hgo.out]; rfl⟩
  · cases hv
@[simp] theorem F95_at (a : AV) (d : Int) (H : Hp) : F95 [a, .int .i64 d] H = (ints H a).map fun sz => if d < 0 ∨ sizeOf sz ≤ d then (.nilS, H) else mkF H (meshAt sz d) := rfl
/-! ### tensors -/
def tens (H : Hp) (a : AV) : Option (List Int × List Int) := match a with
  | .agg [x, y] => (ints H x).bind fun s => (ints H y).map fun d => (s, d)
  | _ => none
theorem tens_some {H : Hp} {a : AV} {p : List Int × List Int} (h : tens H a = some p) : ∃ x y, a = .agg [x, y] ∧ ints H x = some p.1 ∧ ints H y = some p.2 := by
  unfold tens at h
  split at h
  · rename_i x y
    obtain ⟨s, hs, h⟩ := Option.bind_eq_some_iff.1 h
    obtain ⟨d, hd, h⟩ := Option.map_eq_some_iff.1 h
    cases h
    exact ⟨x, y, rfl, hs, hd⟩
  · cases h
theorem tens_of {H : Hp} {x y : AV} {s d : List Int} (hs : ints H x = some s) (hd : ints H y = some d) : tens H (.agg [x, y]) = some (s, d) := by
  simp [tens, hs, hd]
theorem tens_ext {H H' : Hp} (hp : Pre H H') {a : AV} {p : List Int × List Int} (h : tens H a = some p) : tens H' a = some p := by
  obtain ⟨x, y, rfl, hs, hd⟩ := tens_some h
  exact tens_of (ints_ext hp hs) (ints_ext hp hd)
theorem ints_one' {H : Hp} {v : AV} {l : List Int} (h : ints H v = some l) : v.one = true := (ints_cell h).2.1
theorem abox_agg {x y : AV} (H : Hp) (h1 : x.one = true) (h2 : y.one = true) : abox (.agg [x, y]) H = some (.ptr H.bs.length H.c 0, H.new [x, y]) := by
  unfold abox; rw [if_pos (by simp [AV.cells, h1, h2])]; rfl
@[simp] theorem fa40_0 (b v o : Nat) : afaddr' T 40 (.ptr b v o) 0 = some (.ptr b v o) := by simp [afaddr', D40, afaddr, T22]
@[simp] theorem fa40_1 (b v o : Nat) : afaddr' T 40 (.ptr b v o) 1 = some (.ptr b v (o + 1)) := by simp [afaddr', D40, afaddr, T38]
theorem ld22 {H : Hp} {b ver : Nat} {k : Blk} (h : H.at b ver = some k) (j : Nat) : aload T 22 (.ptr b ver j) H = k.cells[j]? := by simp [aload, T22, h]
theorem ld38 {H : Hp} {b ver : Nat} {k : Blk} (h : H.at b ver = some k) (j : Nat) : aload T 38 (.ptr b ver j) H = k.cells[j]? := by simp [aload, T38, h]
theorem ld40 {H : Hp} {b ver : Nat} {x y : AV} {t s : Bool} (h : H.at b ver = some ⟨ver, [x, y], t, s⟩) : aload T 40 (.ptr b ver 0) H = some (.agg [x, y]) := by simp [aload, T40, h]
/-- Is it right? -/
def tOK (p : List Int × List Int) : Bool := shapeOK p.1 && decide ((p.2.length : Int) = sizeOf p.1)
def F91 (args : List AV) (H : Hp) : Option AV := match args with
  | [t] => (tens H t).map fun p => .bool (tOK p)
  | _ => none
theorem snd91 : Sound Try.prog 91 (FSem.pure F91).run := by
  refine sound_of hT (EOK_cons snd90 (EOK_cons snd136 (EOK_nil _))) mixed A91 Try.func91 hb91 (by kernel_rfl) (by kernel_rfl) (by kernel_rfl) (by kernel_rfl) sh91 1 (by kernel_rfl) rs91 hr91 ?_
  intro args H r H' hw h
  obtain ⟨rfl, hv⟩ := pureAt h
  clear h
  unfold F91 at hv
  split at hv
  · obtain ⟨⟨s, d⟩, ht, hv⟩ := Option.map_eq_some_iff.1 hv
    cases hv
    obtain ⟨x, y, rfl, hs, hd⟩ := tens_some ht
    have hbx := abox_agg H' (ints_one' hs) (ints_one' hd)
    have hat := new_at H' [x, y]
    have l1 := ld22 hat 0
    have l2 := ld38 hat 1
    have hP : Pre H' (H'.new [x, y]) := Pre.new (Pre.refl _) _
    have hs1 := ints_ext hP hs
    have hd1 := ints_ext hP hd
    have hln := alenS_ints hd1
    simp only [← alen38] at hln
    simp only [List.getElem?_cons_zero, List.getElem?_cons_succ] at l1 l2
    refine ⟨rfl, go ?_⟩
    unfold c91
    simp only [argSl]
    generalize H'.new [x, y] = H1 at *
    generalize H'.bs.length = b at l1 l2 hbx
    generalize H'.c = ver at l1 l2 hbx
    clear hs hd hat
    replace hP := Hide.mk hP
    rcases hsh : shapeOK s with _ | _
    · repeat' (first | apply goSeq | apply goReg | apply goSeqN | apply goSeqR | apply goSkip | apply goRet | apply goNil | apply goBlock | apply goExit | apply goBlkN | apply goBlkR | apply goBlkE | apply goSeqE | apply goLoopR | apply goLoopE | refine xOp ?_ | refine xOp0 ?_ | refine xYes ?_ | refine xNo ?_ | refine xNoU ?_ | refine xIfT ?_ | refine xIfF ?_ | refine xIf ?_ ?_ | refine xSplit ?_ ?_ | refine xIfQ ?_ ?_ | refine xSplitQ ?_ ?_ | refine xBlkX ?_ | intro _)
      refine goEnd hw hP.out (by simp) (by simp [rs91]; exact rfl) rfl ?_
      simp [tOK, hsh]
    · repeat' (first | apply goSeq | apply goReg | apply goSeqN | apply goSeqR | apply goSkip | apply goRet | apply goNil | apply goBlock | apply goExit | apply goBlkN | apply goBlkR | apply goBlkE | apply goSeqE | apply goLoopR | apply goLoopE | refine xOp ?_ | refine xOp0 ?_ | refine xYes ?_ | refine xNo ?_ | refine xNoU ?_ | refine xIfT ?_ | refine xIfF ?_ | refine xIf ?_ ?_ | refine xSplit ?_ ?_ | refine xIfQ ?_ ?_ | refine xSplitQ ?_ ?_ | refine xBlkX ?_ | intro _)
      refine goEnd hw hP.out (by simp) (by simp [rs91]; exact rfl) rfl ?_
      simp [tOK, hsh]
  · cases hv
@[simp] theorem F91_at (t : AV) (H : Hp) : F91 [t] H = (tens H t).map fun p => .bool (tOK p) := rfl
/-- May it be parted so? -/
def mayL (p : List Int × List Int) (sz sp : List Int) : Int := if tOK p = false then 13 else if specOK sz sp p.1.length = false then 1 else 0
def F87 (args : List AV) (H : Hp) : Option AV := match args with
  | [t, a, b] => (tens H t).bind fun p => (ints H a).bind fun sz => (ints H b).map fun sp => .int .i64 (mayL p sz sp)
  | _ => none
theorem snd87 : Sound Try.prog 87 (FSem.pure F87).run := by
  refine sound_of hT (EOK_cons snd91 (EOK_cons snd89 (EOK_cons snd63 (EOK_nil _)))) mixed A87 Try.func87 hb87 (by kernel_rfl) (by kernel_rfl) (by kernel_rfl) (by kernel_rfl) sh87 3 (by kernel_rfl) rs87 hr87 ?_
  intro args H r H' hw h
  obtain ⟨rfl, hv⟩ := pureAt h
  clear h
  unfold F87 at hv
  split at hv
  · rename_i t a c
    obtain ⟨⟨s, d⟩, ht, hv⟩ := Option.bind_eq_some_iff.1 hv
    obtain ⟨sz, hsz, hv⟩ := Option.bind_eq_some_iff.1 hv
    obtain ⟨sp, hsp, hv⟩ := Option.map_eq_some_iff.1 hv
    cases hv
    obtain ⟨x, y, rfl, hs, hd⟩ := tens_some ht
    have hbx := abox_agg H' (ints_one' hs) (ints_one' hd)
    have hat := new_at H' [x, y]
    have l1 := ld22 hat 0
    have l3 := ld40 hat
    have hP : Pre H' (H'.new [x, y]) := Pre.new (Pre.refl _) _
    have hs1 := ints_ext hP hs
    have hd1 := ints_ext hP hd
    have ht1 := tens_ext hP ht
    have hsz1 := ints_ext hP hsz
    have hsp1 := ints_ext hP hsp
    have hln := alenS_ints hs1
    simp only [← alen22] at hln
    simp only [List.getElem?_cons_zero] at l1
    refine ⟨rfl, go ?_⟩
    unfold c87
    simp only [argSl]
    generalize H'.new [x, y] = H1 at *
    generalize H'.bs.length = b at l1 l3 hbx
    generalize H'.c = ver at l1 l3 hbx
    clear hs hd hat ht hsz hsp
    replace hP := Hide.mk hP
    have hmm : meshOK sz = false → specOK sz sp s.length = false := by intro h; simp [specOK, h]
    rcases h1 : tOK (s, d) with _ | _
    · repeat' (first | apply goSeq | apply goReg | apply goSeqN | apply goSeqR | apply goSkip | apply goRet | apply goNil | apply goBlock | apply goExit | apply goBlkN | apply goBlkR | apply goBlkE | apply goSeqE | apply goLoopR | apply goLoopE | refine xOp ?_ | refine xOp0 ?_ | refine xYes ?_ | refine xNo ?_ | refine xNoU ?_ | refine xIfT ?_ | refine xIfF ?_ | refine xIf ?_ ?_ | refine xSplit ?_ ?_ | refine xIfQ ?_ ?_ | refine xSplitQ ?_ ?_ | refine xBlkX ?_ | intro _)
      refine goEnd hw hP.out (by simp) (by simp [rs87]; exact rfl) rfl ?_
      simp [mayL, h1]
    · rcases h2 : meshOK sz with _ | _
      · replace hmm := hmm h2
        repeat' (first | apply goSeq | apply goReg | apply goSeqN | apply goSeqR | apply goSkip | apply goRet | apply goNil | apply goBlock | apply goExit | apply goBlkN | apply goBlkR | apply goBlkE | apply goSeqE | apply goLoopR | apply goLoopE | refine xOp ?_ | refine xOp0 ?_ | refine xYes ?_ | refine xNo ?_ | refine xNoU ?_ | refine xIfT ?_ | refine xIfF ?_ | refine xIf ?_ ?_ | refine xSplit ?_ ?_ | refine xIfQ ?_ ?_ | refine xSplitQ ?_ ?_ | refine xBlkX ?_ | intro _)
        refine goEnd hw hP.out (by simp) (by simp [rs87]; exact rfl) rfl ?_
        simp [mayL, h1, hmm]
      · rcases h3 : specOK sz sp s.length with _ | _
        · clear hmm
          repeat' (first | apply goSeq | apply goReg | apply goSeqN | apply goSeqR | apply goSkip | apply goRet | apply goNil | apply goBlock | apply goExit | apply goBlkN | apply goBlkR | apply goBlkE | apply goSeqE | apply goLoopR | apply goLoopE | refine xOp ?_ | refine xOp0 ?_ | refine xYes ?_ | refine xNo ?_ | refine xNoU ?_ | refine xIfT ?_ | refine xIfF ?_ | refine xIf ?_ ?_ | refine xSplit ?_ ?_ | refine xIfQ ?_ ?_ | refine xSplitQ ?_ ?_ | refine xBlkX ?_ | intro _)
          refine goEnd hw hP.out (by simp) (by simp [rs87]; exact rfl) rfl ?_
          simp [mayL, h1, h3]
        · clear hmm
          repeat' (first | apply goSeq | apply goReg | apply goSeqN | apply goSeqR | apply goSkip | apply goRet | apply goNil | apply goBlock | apply goExit | apply goBlkN | apply goBlkR | apply goBlkE | apply goSeqE | apply goLoopR | apply goLoopE | refine xOp ?_ | refine xOp0 ?_ | refine xYes ?_ | refine xNo ?_ | refine xNoU ?_ | refine xIfT ?_ | refine xIfF ?_ | refine xIf ?_ ?_ | refine xSplit ?_ ?_ | refine xIfQ ?_ ?_ | refine xSplitQ ?_ ?_ | refine xBlkX ?_ | intro _)
          refine goEnd hw hP.out (by simp) (by simp [rs87]; exact rfl) rfl ?_
          simp [mayL, h1, h3]
  · cases hv
@[simp] theorem F87_at (t a b : AV) (H : Hp) : F87 [t, a, b] H = (tens H t).bind fun p => (ints H a).bind fun sz => (ints H b).map fun sp => .int .i64 (mayL p sz sp) := rfl
/-- Are two tensors the same? -/
def sameT (p q : List Int × List Int) : Bool := sameL p.1 q.1 && sameL p.2 q.2
def F93 (args : List AV) (H : Hp) : Option AV := match args with
  | [t, u] => (tens H t).bind fun p => (tens H u).map fun q => .bool (sameT p q)
  | _ => none
theorem snd93 : Sound Try.prog 93 (FSem.pure F93).run := by
  refine sound_of hT (EOK_cons snd92 (EOK_cons snd137 (EOK_nil _))) mixed A93 Try.func93 hb93 (by kernel_rfl) (by kernel_rfl) (by kernel_rfl) (by kernel_rfl) sh93 2 (by kernel_rfl) rs93 hr93 ?_
  intro args H r H' hw h
  obtain ⟨rfl, hv⟩ := pureAt h
  clear h
  unfold F93 at hv
  split at hv
  · rename_i t u
    obtain ⟨⟨s, d⟩, ht, hv⟩ := Option.bind_eq_some_iff.1 hv
    obtain ⟨⟨s', d'⟩, hu, hv⟩ := Option.map_eq_some_iff.1 hv
    cases hv
    obtain ⟨x, y, rfl, hs, hd⟩ := tens_some ht
    obtain ⟨x', y', rfl, hs', hd'⟩ := tens_some hu
    have hbx := abox_agg H' (ints_one' hs) (ints_one' hd)
    have hbx2 := abox_agg (H'.new [x, y]) (ints_one' hs') (ints_one' hd')
    have hat2 := new_at (H'.new [x, y]) [x', y']
    have hP1 : Pre (H'.new [x, y]) ((H'.new [x, y]).new [x', y']) := Pre.new (Pre.refl _) _
    have hat := hP1.at (new_at H' [x, y])
    have l1 := ld22 hat 0
    have l2 := ld38 hat 1
    have l3 := ld22 hat2 0
    have l4 := ld38 hat2 1
    have hP : Pre H' ((H'.new [x, y]).new [x', y']) := (Pre.new (Pre.refl _) _).trans hP1
    have hs1 := ints_ext hP hs
    have hd1 := ints_ext hP hd
    have hs2 := ints_ext hP hs'
    have hd2 := ints_ext hP hd'
    simp only [List.getElem?_cons_zero, List.getElem?_cons_succ] at l1 l2 l3 l4
    refine ⟨rfl, go ?_⟩
    unfold c93
    simp only [argSl]
    clear hat hat2 hP1 hs hd hs' hd' ht hu
    generalize (H'.new [x, y]).new [x', y'] = H2 at *
    generalize (H'.new [x, y]).bs.length = b2 at *
    generalize (H'.new [x, y]).c = ver2 at *
    generalize H'.new [x, y] = H1 at *
    generalize H'.bs.length = b at l1 l2 hbx
    generalize H'.c = ver at l1 l2 hbx
    replace hP := Hide.mk hP
    rcases hss : sameL s s' with _ | _
    · repeat' (first | apply goSeq | apply goReg | apply goSeqN | apply goSeqR | apply goSkip | apply goRet | apply goNil | apply goBlock | apply goExit | apply goBlkN | apply goBlkR | apply goBlkE | apply goSeqE | apply goLoopR | apply goLoopE | refine xOp ?_ | refine xOp0 ?_ | refine xYes ?_ | refine xNo ?_ | refine xNoU ?_ | refine xIfT ?_ | refine xIfF ?_ | refine xIf ?_ ?_ | refine xSplit ?_ ?_ | refine xIfQ ?_ ?_ | refine xSplitQ ?_ ?_ | refine xBlkX ?_ | intro _)
      refine goEnd hw hP.out (by simp) (by simp [rs93]; exact rfl) rfl ?_
      simp [sameT, hss]
    · repeat' (first | apply goSeq | apply goReg | apply goSeqN | apply goSeqR | apply goSkip | apply goRet | apply goNil | apply goBlock | apply goExit | apply goBlkN | apply goBlkR | apply goBlkE | apply goSeqE | apply goLoopR | apply goLoopE | refine xOp ?_ | refine xOp0 ?_ | refine xYes ?_ | refine xNo ?_ | refine xNoU ?_ | refine xIfT ?_ | refine xIfF ?_ | refine xIf ?_ ?_ | refine xSplit ?_ ?_ | refine xIfQ ?_ ?_ | refine xSplitQ ?_ ?_ | refine xBlkX ?_ | intro _)
      refine goEnd hw hP.out (by simp) (by simp [rs93]; exact rfl) rfl ?_
      simp [sameT, hss]
  · cases hv
@[simp] theorem F93_at (t u : AV) (H : Hp) : F93 [t, u] H = (tens H t).bind fun p => (tens H u).map fun q => .bool (sameT p q) := rfl
def F39 (args : List AV) (H : Hp) : Option AV := match args with
  | [t, u] => (tens H t).bind fun p => (tens H u).map fun q => .bool (sameT p q)
  | _ => none
set_option maxHeartbeats 1000000 in
theorem snd39 : Sound Try.prog 39 (FSem.pure F39).run := by
  refine sound_of hT (EOK_cons snd97 (EOK_nil _)) mixed A39 Try.func39 hb39 (by kernel_rfl) (by kernel_rfl) (by kernel_rfl) (by kernel_rfl) sh39 2 (by kernel_rfl) rs39 hr39 ?_
  intro args H r H' hw h
  obtain ⟨rfl, hv⟩ := pureAt h
  clear h
  unfold F39 at hv
  split at hv
  · rename_i t u
    obtain ⟨⟨s, d⟩, ht, hv⟩ := Option.bind_eq_some_iff.1 hv
    obtain ⟨⟨s', d'⟩, hu, hv⟩ := Option.map_eq_some_iff.1 hv
    cases hv
    obtain ⟨x, y, rfl, hs, hd⟩ := tens_some ht
    obtain ⟨x', y', rfl, hs', hd'⟩ := tens_some hu
    have hbx := abox_agg H' (ints_one' hs) (ints_one' hd)
    have hbx2 := abox_agg (H'.new [x, y]) (ints_one' hs') (ints_one' hd')
    have hat2 := new_at (H'.new [x, y]) [x', y']
    have hP1 : Pre (H'.new [x, y]) ((H'.new [x, y]).new [x', y']) := Pre.new (Pre.refl _) _
    have hat := hP1.at (new_at H' [x, y])
    have l1 := ld22 hat 0
    have l2 := ld38 hat 1
    have l3 := ld22 hat2 0
    have l4 := ld38 hat2 1
    have hP : Pre H' ((H'.new [x, y]).new [x', y']) := (Pre.new (Pre.refl _) _).trans hP1
    have hs1 := ints_ext hP hs
    have hd1 := ints_ext hP hd
    have hs2 := ints_ext hP hs'
    have hd2 := ints_ext hP hd'
    simp only [List.getElem?_cons_zero, List.getElem?_cons_succ] at l1 l2 l3 l4
    have hlen := alenS_ints hd1
    have hlen2 := alenS_ints hd2
    have hb : d.length ≤ 1152921504606846976 := ints_len hd1
    have hix := aidxS_ints hd1 .i64
    have hld := aload_nth T2 rfl hd1
    have hix2 := aidxS_ints hd2 .i64
    have hld2 := aload_nth T2 rfl hd2
    simp only [← aidx38, ← alen38] at hix hlen hix2 hlen2
    refine ⟨rfl, go ?_⟩
    unfold c39
    simp only [argSl]
    clear hat hat2 hP1 hs hd hs' hd' ht hu
    generalize (H'.new [x, y]).new [x', y'] = H2 at *
    generalize (H'.new [x, y]).bs.length = b2 at *
    generalize (H'.new [x, y]).c = ver2 at *
    generalize H'.new [x, y] = H1 at *
    generalize H'.bs.length = b at l1 l2 hbx
    generalize H'.c = ver at l1 l2 hbx
    replace hP := Hide.mk hP
    clear hd1 hd2
    rcases hss : sameL s s' with _ | _
    · repeat' (first | apply goSeq | apply goReg | apply goSeqN | apply goSeqR | apply goSkip | apply goRet | apply goNil | apply goBlock | apply goExit | apply goBlkN | apply goBlkR | apply goBlkE | apply goSeqE | apply goLoopR | apply goLoopE | refine xOp ?_ | refine xOp0 ?_ | refine xYes ?_ | refine xNo ?_ | refine xNoU ?_ | refine xIfT ?_ | refine xIfF ?_ | refine xIf ?_ ?_ | refine xSplit ?_ ?_ | refine xIfQ ?_ ?_ | refine xSplitQ ?_ ?_ | refine xBlkX ?_ | intro _)
      refine goEnd hw hP.out (by simp) (by simp [rs39]; exact rfl) rfl ?_
      simp [sameT, hss]
    by_cases hll : d.length = d'.length
    · have hres : sameT (s, d) (s', d') = sameGo d d' := by simp [sameT, sameL, hll]; intro _; have := hss; simp [sameL] at this; exact this
      have hll' : (d'.length : Int) = d.length := by omega
      rw [hres]
      rw [hll'] at hix2 hld2 hlen2
      clear hll hll' hres
      repeat' (first | apply goSeq | apply goReg | apply goSeqN | apply goSeqR | apply goSkip | apply goRet | apply goNil | apply goBlock | apply goExit | apply goBlkN | apply goBlkR | apply goBlkE | apply goSeqE | apply goLoopR | apply goLoopE | refine xOp ?_ | refine xOp0 ?_ | refine xYes ?_ | refine xNo ?_ | refine xNoU ?_ | refine xIfT ?_ | refine xIfF ?_ | refine xIf ?_ ?_ | refine xSplit ?_ ?_ | refine xIfQ ?_ ?_ | refine xSplitQ ?_ ?_ | refine xBlkX ?_ | intro _)
      refine goLoop (fun m s1 G => G = H2 ∧ ∃ (i : Nat), m = d.length - i ∧ i ≤ d.length ∧ get s1 2 = .ptr b ver 0 ∧ get s1 3 = .ptr b2 ver2 0 ∧ get s1 5 = .int .i64 i ∧ sameGo (d.drop i) (d'.drop i) = sameGo d d') d.length ?_ ?_
      · exact ⟨rfl, 0, rfl, Nat.zero_le _, rfl, rfl, rfl, by simp⟩
      · rintro m s1 G ⟨rfl, i, hm, hi, g3, g9, g10, hgo⟩
        simp only [cut_cons, cut_nil, g3, g9, g10]
        have hi0 : (0 : Int) ≤ i := Int.natCast_nonneg i
        have hd := fun h => drop_nth d i h
        have hnil : ¬ i < d.length → d.drop i = [] := fun h => List.drop_of_length_le (by omega)
        have hw1 : w ((i : Int) + 1) = ((i + 1 : Nat) : Int) := w_id (by omega)
        clear g3 g9 g10
        replace hgo := Hide.mk hgo
        repeat' (first | apply goSeq | apply goReg | apply goSeqN | apply goSeqR | apply goSkip | apply goRet | apply goNil | apply goBlock | apply goExit | apply goBlkN | apply goBlkR | apply goBlkE | apply goSeqE | apply goLoopR | apply goLoopE | refine xOp ?_ | refine xOp0 ?_ | refine xYes ?_ | refine xNo ?_ | refine xNoU ?_ | refine xIfT ?_ | refine xIfF ?_ | refine xIf ?_ ?_ | refine xSplit ?_ ?_ | refine xIfQ ?_ ?_ | refine xSplitQ ?_ ?_ | refine xBlkX ?_ | intro _)
        all_goals replace hgo := hgo.out
        all_goals (try simp only [Bool.not_eq_true', decide_eq_false_iff_not, Bool.not_eq_false', decide_eq_true_eq] at *)
        all_goals first
          | (refine goEnd hw hP.out (by simp) (by simp [rs39]; exact rfl) rfl ?_; rw [← hgo]; simp [sameGo, nth_drop, hd, hnil, *]; done)
          | (refine goLoopN (d.length - (i + 1)) (by omega) ⟨rfl, i + 1, rfl, by omega, rfl, rfl, rfl, ?_⟩; rw [← hgo]; simp [sameGo, nth_drop, hd, *])
    · repeat' (first | apply goSeq | apply goReg | apply goSeqN | apply goSeqR | apply goSkip | apply goRet | apply goNil | apply goBlock | apply goExit | apply goBlkN | apply goBlkR | apply goBlkE | apply goSeqE | apply goLoopR | apply goLoopE | refine xOp ?_ | refine xOp0 ?_ | refine xYes ?_ | refine xNo ?_ | refine xNoU ?_ | refine xIfT ?_ | refine xIfF ?_ | refine xIf ?_ ?_ | refine xSplit ?_ ?_ | refine xIfQ ?_ ?_ | refine xSplitQ ?_ ?_ | refine xBlkX ?_ | intro _)
      · refine goEnd hw hP.out (by simp) (by simp [rs39]; exact rfl) rfl ?_
        simp [sameT, sameL, hll]
      · rename_i hc
        simp at hc
        omega
  · cases hv
@[simp] theorem F39_at (t u : AV) (H : Hp) : F39 [t, u] H = (tens H t).bind fun p => (tens H u).map fun q => .bool (sameT p q) := rfl
/- Structs and lists that a function makes, for tensors. -/
section
variable {E : Env} {sh : Bool} {s : Sl} {H : Hp}
@[simp] theorem xdo_alloc40 : xdo E T sh (.alloc 40) s H = some (.ptr H.bs.length H.c 0, H.new [.nilS, .nilS]) := by simp [xdo, aop, T40]
def bld40 (x y : AV) : Option AV := (afill (fun j => ([(0, 22), (1, 38)][j]?).bind fun f => (T f.2).map fun i => (f.1, i.size)) [.nilS, .nilS] [(0, x), (1, y)]).map .agg
theorem bld40_one {x y : AV} (hx : x.one = true) (hy : y.one = true) : bld40 x y = some (.agg [x, y]) := by
  have hx' : x.cells = [x] := by cases x <;> first | rfl | cases hx
  have hy' : y.cells = [y] := by cases y <;> first | rfl | cases hy
  simp [bld40, afill, T22, T38, hx', hy', hx, hy, setAll]
@[simp] theorem xdo_bld40 (x y : Operand) : xdo E T sh (.build 40 #[(0, x), (1, y)]) s H = (bld40 (ev s x) (ev s y)).map fun v => (v, H) := by
  simp only [xdo, aop, T40, bld40, Option.map_map]
  rfl
@[simp] theorem xdo_bld40_0 : xdo E T sh (.build 40 #[]) s H = some (.agg [.nilS, .nilS], H) := by
  simp [xdo, aop, T40, afill]
def bld40a (x : AV) : Option AV := (afill (fun j => ([(0, 22), (1, 38)][j]?).bind fun f => (T f.2).map fun i => (f.1, i.size)) [.nilS, .nilS] [(0, x)]).map .agg
theorem bld40a_one {x : AV} (hx : x.one = true) : bld40a x = some (.agg [x, .nilS]) := by
  have hx' : x.cells = [x] := by cases x <;> first | rfl | cases hx
  simp [bld40a, afill, T22, T38, hx', hx, setAll]
@[simp] theorem xdo_bld40a (x : Operand) : xdo E T sh (.build 40 #[(0, x)]) s H = (bld40a (ev s x)).map fun v => (v, H) := by
  simp only [xdo, aop, T40, bld40a, Option.map_map]
  rfl
@[simp] theorem xdo_bs1_38 (x : Operand) : xdo E T sh (.buildSlice 38 1 #[(0, x)]) s H = abs1 (ev s x) H := by
  simp [xdo, aop, D38, T2, rep, abs1]
end
@[simp] theorem xres_cell (T : Tab) (s : Sl) (H : Hp) (a t : Nat) (l : List ResultVar) : xres T s H (.cell a t :: l) = (aload T t (get s a) H).bind fun v => (xres T s H l).map (v :: ·) := by
  simp only [xres]; cases aload T t (get s a) H <;> rfl
theorem aapp38 (sh : Bool) (x y : AV) (H : Hp) : aapp T sh 38 38 x y H = aapp T sh 22 22 x y H := by simp [aapp, D38, T2, D22, T3]
theorem amake38 (l c : AV) (H : Hp) : amake T 38 l c H = amake T 22 l c H := by simp [amake, D38, T2, D22, T3]
theorem st40 {H : Hp} {b ver : Nat} {x y x' y' : AV} (h : H.at b ver = some ⟨ver, [x', y'], true, true⟩) (hx : x.one = true) (hy : y.one = true) : astore T 40 (.ptr b ver 0) (.agg [x, y]) H = some (H.put b ⟨ver, [x, y], true, true⟩) := by
  simp only [astore, T40, h]
  rw [if_pos (by simp [AV.cells, hx, hy])]
  simp [setAll, AV.cells]
theorem st38_1 {H : Hp} {b ver : Nat} {x y y' : AV} (h : H.at b ver = some ⟨ver, [x, y'], true, true⟩) (hy : y.one = true) : astore T 38 (.ptr b ver 1) y H = some (H.put b ⟨ver, [x, y], true, true⟩) := by
  have hy' : y.cells = [y] := by cases y <;> first | rfl | cases hy
  simp only [astore, T38, h]
  rw [if_pos (by simp [hy', hy])]
  simp [setAll, hy']
/-- A block of one's own is written. -/
theorem OwnC.wr {H0 H : Hp} {b ver : Nat} {cs : List AV} (hw0 : Wf H0) (he : Ext H0 H) (h : OwnC H0 H b ver cs) (cs' : List AV) : OwnC H0 (H.put b ⟨ver, cs', true, true⟩) b ver cs' ∧ Ext H0 (H.put b ⟨ver, cs', true, true⟩) := by
  obtain ⟨g1, g2⟩ := Hp.at_some h.at'
  have hb := (List.getElem?_eq_some_iff.1 g1).1
  refine ⟨⟨h.new, by simp [Hp.at, Hp.put, hb]⟩, ?_, ?_, he.c⟩
  · intro i k hi
    have h1 := he.pre i k hi
    show (H.bs.set b _)[i]? = some k
    by_cases hib : b = i
    · subst hib
      rw [g1] at h1
      cases h1
      exact absurd (hw0 b _ hi) (Nat.not_lt.2 h.new)
    · rw [List.getElem?_set_ne hib]; exact h1
  · intro i k hi
    simp only [Hp.put] at hi ⊢
    by_cases hib : b = i
    · subst hib
      simp [hb] at hi
      subst hi
      exact (he.wf b _ g1 : ver < H.c)
    · rw [List.getElem?_set_ne hib] at hi
      exact he.wf i k hi
theorem OwnC.ext {H0 H H' : Hp} {b ver : Nat} {cs : List AV} (hp : Pre H H') (h : OwnC H0 H b ver cs) : OwnC H0 H' b ver cs := ⟨h.new, hp.at h.at'⟩
theorem OwnC.lt {H0 H : Hp} {b ver : Nat} {cs : List AV} (h : OwnC H0 H b ver cs) : b < H.bs.length := (List.getElem?_eq_some_iff.1 (Hp.at_some h.at').1).1
/-- What one block says is not said of another. -/
theorem Hp.at_ne {H : Hp} {b b' ver ver' : Nat} {k k' : Blk} (h : H.at b ver = some k) (h' : H.at b' ver' = some k') (hv : ver ≠ ver') : b ≠ b' := by
  intro e
  subst e
  obtain ⟨g1, g2⟩ := Hp.at_some h
  obtain ⟨g3, g4⟩ := Hp.at_some h'
  rw [g1] at g3
  cases g3
  exact hv (g2.symm.trans g4)
mutual
/-- A value's blocks are not touched where another block is written. -/
theorem Rep.put {c : Nat} {H : Hp} {b ver : Nat} {k0 k1 : Blk} (hk : H.at b ver = some k0) : ∀ (t : Tr) {v : AV} {bs : List (Nat × Nat)}, (∀ p ∈ bs, p.2 ≠ ver) → Rep c H t v bs → Rep c (H.put b k1) t v bs
  | .at a, v, bs, hn, h => by simpa only [Rep] using h
  | .sl n es full cs, v, bs, hn, h => by
    simp only [Rep] at h ⊢
    obtain ⟨b', ver', vs, bs', e1, e2, e3, e4, rfl⟩ := h
    refine ⟨b', ver', vs, bs', e1, e2, ?_, Reps.put hk cs (fun p hp => hn p (by simp [hp])) e4, rfl⟩
    rw [at_put (Hp.at_ne e3 hk (hn (b', ver') (by simp)))]; exact e3
  | .bx cs, v, bs, hn, h => by
    simp only [Rep] at h ⊢
    obtain ⟨b', ver', vs, bs', e1, e2, e3, e4, rfl⟩ := h
    refine ⟨b', ver', vs, bs', e1, e2, ?_, Reps.put hk cs (fun p hp => hn p (by simp [hp])) e4, rfl⟩
    rw [at_put (Hp.at_ne e3 hk (hn (b', ver') (by simp)))]; exact e3
  | .agg cs, v, bs, hn, h => by
    simp only [Rep] at h ⊢
    obtain ⟨vs, e1, e4⟩ := h
    exact ⟨vs, e1, Reps.put hk cs hn e4⟩
  | .tup cs, v, bs, hn, h => by
    simp only [Rep] at h ⊢
    obtain ⟨vs, e1, e4⟩ := h
    exact ⟨vs, e1, Reps.put hk cs hn e4⟩
theorem Reps.put {c : Nat} {H : Hp} {b ver : Nat} {k0 k1 : Blk} (hk : H.at b ver = some k0) : ∀ (l : List Tr) {vs : List AV} {bs : List (Nat × Nat)}, (∀ p ∈ bs, p.2 ≠ ver) → Reps c H l vs bs → Reps c (H.put b k1) l vs bs
  | [], vs, bs, hn, h => by simpa only [Reps] using h
  | t :: l, vs, bs, hn, h => by
    simp only [Reps] at h ⊢
    obtain ⟨v, vs', b1, b2, e1, e2, e3, rfl⟩ := h
    exact ⟨v, vs', b1, b2, e1, Rep.put hk t (fun p hp => hn p (by simp [hp])) e2, Reps.put hk l (fun p hp => hn p (by simp [hp])) e3, rfl⟩
end
/-- A copied list. -/
def trC (l : List Int) : Tr := if l = [] then trF [] else trS l
theorem okT_C (c : Nat) (l : List Int) : okT c (trC l) = true := by
  unfold trC; split
  · exact okT_F c []
  · exact okT_S c l
theorem repL_ints {c : Nat} {H : Hp} {l : List Int} {v : AV} {bs : List (Nat × Nat)} (hl : l.length ≤ 1152921504606846976) (h : Rep c H (trS l) v bs ∨ Rep c H (trF l) v bs ∨ Rep c H (trC l) v bs) : ints H v = some l := by
  have hS : ∀ {l : List Int}, l.length ≤ 1152921504606846976 → Rep c H (trS l) v bs → ints H v = some l := by
    intro l hl h
    rcases rep_S.1 h with ⟨rfl, rfl, _⟩ | ⟨b, ver, rfl, h2, h3, h4, _⟩
    · rfl
    · exact ints_of_own (H0 := ⟨[], c⟩) (.inr ⟨b, ver, rfl, h2, h3, h4⟩) hl
  have hF : ∀ {l : List Int}, l.length ≤ 1152921504606846976 → Rep c H (trF l) v bs → ints H v = some l := by
    intro l hl h
    obtain ⟨b, ver, rfl, h2, h3, _⟩ := rep_F.1 h
    exact ints_of_ownF (H0 := ⟨[], c⟩) ⟨b, ver, rfl, h2, h3⟩ hl
  rcases h with h | h | h
  · exact hS hl h
  · exact hF hl h
  · unfold trC at h
    split at h
    · rename_i e; subst e; exact hF hl h
    · exact hS hl h
/-- A list is copied behind an empty one. -/
theorem clone_own {H0 H : Hp} {y : AV} {m : List Int} (he : Ext H0 H) (hm : ints H y = some m) (hl : m.length < 1099511627776) :
    ∃ v' H' bs, aapp T false 22 22 (.sl H.bs.length H.c 0 0 1 true) y (H.new []) = some (v', H') ∧ Rep H.c H' (trC m) v' bs ∧ Fresh H.c H'.c bs ∧ Ext H H' := by
  have he1 : Ext H (H.new []) := (Ext.refl he.wf).new _
  have hm1 := ints_ext he1.pre hm
  have hx := ints_cells hm1
  have hat := new_at H []
  by_cases h0 : m = []
  · subst h0
    refine ⟨.sl H.bs.length H.c 0 0 1 true, H.new [], [(H.bs.length, H.c)], ?_, ?_, Fresh.one (Nat.le_refl _) (Nat.lt_succ_self _), he1⟩
    · simp only [aapp, D22, T3, Option.bind_some, aappend, hx]
      simp
    · unfold trC
      rw [if_pos rfl]
      exact rep_F.2 ⟨_, _, rfl, Nat.le_refl _, hat, rfl⟩
  · have hne : m.length ≠ 0 := by simpa using h0
    refine ⟨.sl (H.new []).bs.length (H.new []).c 0 m.length 1 false, (H.new []).new (m.map (.int .i64)), [((H.new []).bs.length, (H.new []).c)], ?_, ?_, ?_, he1.new _⟩
    · simp only [aapp, D22, T3, Option.bind_some, aappend, hx, hat]
      simp [hne, maxBytes, h0]
      omega
    · unfold trC
      rw [if_neg h0]
      exact rep_S.2 (.inr ⟨_, _, rfl, he1.c, h0, new_at _ _, rfl⟩)
    · exact Fresh.one he1.c (Nat.lt_succ_self _)
theorem rep_agg2 {c : Nat} {H : Hp} {a b : Tr} {v : AV} {bs : List (Nat × Nat)} : Rep c H (.agg [a, b]) v bs ↔ ∃ x y b1 b2, v = .agg [x, y] ∧ Rep c H a x b1 ∧ Rep c H b y b2 ∧ bs = b1 ++ b2 := by
  simp only [Rep, Reps]
  constructor
  · rintro ⟨vs, rfl, v, vs', b1, b2, rfl, h1, ⟨w, vs'', b3, b4, rfl, h2, ⟨rfl, rfl⟩, rfl⟩, rfl⟩
    exact ⟨v, w, b1, b3, rfl, h1, h2, by simp⟩
  · rintro ⟨x, y, b1, b2, rfl, h1, h2, rfl⟩
    exact ⟨_, rfl, x, [y], b1, b2, rfl, h1, ⟨y, [], b2, [], rfl, h2, ⟨rfl, rfl⟩, by simp⟩, rfl⟩
/-- Lists of numbers of any make. -/
def isL (t : Tr) (l : List Int) : Prop := t = trS l ∨ t = trF l ∨ t = trC l
theorem isL.ok {t : Tr} {l : List Int} (h : isL t l) (c : Nat) : okT c t = true := by
  rcases h with rfl | rfl | rfl
  · exact okT_S c l
  · exact okT_F c l
  · exact okT_C c l
theorem isL.ints {t : Tr} {l : List Int} (h : isL t l) {c : Nat} {H : Hp} {v : AV} {bs : List (Nat × Nat)} (hl : l.length ≤ 1152921504606846976) (hr : Rep c H t v bs) : Pq.ints H v = some l := by
  rcases h with rfl | rfl | rfl
  · exact repL_ints hl (.inl hr)
  · exact repL_ints hl (.inr (.inl hr))
  · exact repL_ints hl (.inr (.inr hr))
/-- A tensor that was handed back. -/
theorem mk_tens {H : Hp} (hw : Wf H) {a b : Tr} {s d : List Int} (ha : isL a s) (hb : isL b d) (hs : s.length ≤ 1152921504606846976) (hd : d.length ≤ 1152921504606846976) :
    ∃ bs, Rep H.c (mk (.agg [a, b]) H).2 (.agg [a, b]) (mk (.agg [a, b]) H).1 bs ∧ Fresh H.c (mk (.agg [a, b]) H).2.c bs ∧ Ext H (mk (.agg [a, b]) H).2 ∧ tens (mk (.agg [a, b]) H).2 (mk (.agg [a, b]) H).1 = some (s, d) := by
  obtain ⟨bs, h1, h2, h3⟩ := mk_rep (.agg [a, b]) (c0 := 0) hw (Nat.zero_le _) (by simp [okT, okTs, ha.ok, hb.ok])
  refine ⟨bs, h1, h2, h3, ?_⟩
  obtain ⟨x, y, b1, b2, e, r1, r2, _⟩ := rep_agg2.1 h1
  rw [e]
  exact tens_of (ha.ints hs r1) (hb.ints hd r2)
/-! ### what stays -/
def Keeps (H H' : Hp) (b ver : Nat) : Prop := ∀ k, H.at b ver = some k → H'.at b ver = some k
theorem Keeps.pre {H H' : Hp} (h : Pre H H') (b ver : Nat) : Keeps H H' b ver := fun _ hk => h.at hk
theorem Keeps.trans {A B C : Hp} {b ver : Nat} (h : Keeps A B b ver) (k : Keeps B C b ver) : Keeps A C b ver := fun x hx => k x (h x hx)
theorem Keeps.put {H : Hp} {b ver b' ver' : Nat} {k k' : Blk} (hk : H.at b ver = some k) (hv : ver' ≠ ver) : Keeps H (H.put b k') b' ver' := by
  intro x hx
  rw [at_put (Hp.at_ne hx hk hv)]; exact hx
mutual
theorem Rep.keep {c : Nat} {H H' : Hp} : ∀ (t : Tr) {v : AV} {bs : List (Nat × Nat)}, (∀ p ∈ bs, Keeps H H' p.1 p.2) → Rep c H t v bs → Rep c H' t v bs
  | .at a, v, bs, hn, h => by simpa only [Rep] using h
  | .sl n es full cs, v, bs, hn, h => by
    simp only [Rep] at h ⊢
    obtain ⟨b', ver', vs, bs', e1, e2, e3, e4, rfl⟩ := h
    exact ⟨b', ver', vs, bs', e1, e2, hn (b', ver') (by simp) _ e3, Reps.keep cs (fun p hp => hn p (by simp [hp])) e4, rfl⟩
  | .bx cs, v, bs, hn, h => by
    simp only [Rep] at h ⊢
    obtain ⟨b', ver', vs, bs', e1, e2, e3, e4, rfl⟩ := h
    exact ⟨b', ver', vs, bs', e1, e2, hn (b', ver') (by simp) _ e3, Reps.keep cs (fun p hp => hn p (by simp [hp])) e4, rfl⟩
  | .agg cs, v, bs, hn, h => by
    simp only [Rep] at h ⊢
    obtain ⟨vs, e1, e4⟩ := h
    exact ⟨vs, e1, Reps.keep cs hn e4⟩
  | .tup cs, v, bs, hn, h => by
    simp only [Rep] at h ⊢
    obtain ⟨vs, e1, e4⟩ := h
    exact ⟨vs, e1, Reps.keep cs hn e4⟩
theorem Reps.keep {c : Nat} {H H' : Hp} : ∀ (l : List Tr) {vs : List AV} {bs : List (Nat × Nat)}, (∀ p ∈ bs, Keeps H H' p.1 p.2) → Reps c H l vs bs → Reps c H' l vs bs
  | [], vs, bs, hn, h => by simpa only [Reps] using h
  | t :: l, vs, bs, hn, h => by
    simp only [Reps] at h ⊢
    obtain ⟨v, vs', b1, b2, e1, e2, e3, rfl⟩ := h
    exact ⟨v, vs', b1, b2, e1, Rep.keep t (fun p hp => hn p (by simp [hp])) e2, Reps.keep l (fun p hp => hn p (by simp [hp])) e3, rfl⟩
end
theorem OwnC.keep {H0 H H' : Hp} {b ver : Nat} {cs : List AV} (hk : Keeps H H' b ver) (h : OwnC H0 H b ver cs) : OwnC H0 H' b ver cs := ⟨h.new, hk _ h.at'⟩
theorem Own.keep {H0 H H' : Hp} {v : AV} {l : List Int} (hk : ∀ b ver, H0.c ≤ ver → Keeps H H' b ver) (h : Own H0 H v l) : Own H0 H' v l := by
  rcases h with h | ⟨b, ver, h1, h2, h3, h4⟩
  · exact .inl h
  · exact .inr ⟨b, ver, h1, h2, h3, hk b ver h2 _ h4⟩
theorem OwnF.keep {H0 H H' : Hp} {v : AV} {l : List Int} (hk : ∀ b ver, H0.c ≤ ver → Keeps H H' b ver) (h : OwnF H0 H v l) : OwnF H0 H' v l := by
  obtain ⟨b, ver, h1, h2, h4⟩ := h
  exact ⟨b, ver, h1, h2, hk b ver h2 _ h4⟩
/-- The memory as it was, at a later time. -/
def Hp.till (H : Hp) (c : Nat) : Hp := ⟨H.bs, c⟩
theorem Wf.till {H : Hp} (h : Wf H) {c : Nat} (hc : H.c ≤ c) : Wf (H.till c) := fun b k hk => Nat.lt_of_lt_of_le (h b k hk) hc
theorem Ext.till {H0 H : Hp} (h : Ext H0 H) {c : Nat} (hc : c ≤ H.c) : Ext (H0.till c) H := ⟨h.pre, h.wf, hc⟩
theorem Ext.untill {H0 H : Hp} {c : Nat} (h : Ext (H0.till c) H) (hc : H0.c ≤ c) : Ext H0 H := ⟨h.pre, h.wf, Nat.le_trans hc h.c⟩
/-- As app_own; and what is older stays. -/
theorem app_own2 {H0 H : Hp} {v : AV} {l : List Int} (hw0 : Wf H0) (he : Ext H0 H) (h : Own H0 H v l) (hl : l.length < 1099511627776) (n : Int) :
    ∃ v' H', aapp T false 22 22 v (.sl H.bs.length H.c 0 1 1 true) (H.new [.int .i64 n]) = some (v', H') ∧ Own H0 H' v' (l ++ [n]) ∧ Ext H0 H' ∧ ∀ b ver, ver < H0.c → Keeps H H' b ver := by
  have hx : slCells (H.new [.int .i64 n]) (.sl H.bs.length H.c 0 1 1 true) = some (1, [.int .i64 n]) := by
    simp [slCells, new_at]
  have he1 : Ext H0 (H.new [.int .i64 n]) := he.new _
  rcases h with ⟨rfl, rfl⟩ | ⟨b, ver, rfl, hv, hne, hk⟩
  · refine ⟨.sl (H.new [.int .i64 n]).bs.length (H.new [.int .i64 n]).c 0 1 1 false, (H.new [.int .i64 n]).new [.int .i64 n], ?_, ?_, he1.new _, ?_⟩
    · simp only [aapp, D22, T3, Option.bind_some, aappend, hx]
      simp [maxBytes]
    · exact .inr ⟨_, _, rfl, he1.c, by simp, new_at _ _⟩
    · intro b' ver' _ k hk
      exact at_new (at_new hk _) _
  · have hk' := at_new hk [.int .i64 n]
    obtain ⟨g1, g2⟩ := Hp.at_some hk'
    have hb := (List.getElem?_eq_some_iff.1 g1).1
    refine ⟨.sl b (H.new [.int .i64 n]).c 0 (l.length + 1) 1 false, ⟨(H.new [.int .i64 n]).bs.set b ⟨(H.new [.int .i64 n]).c, l.map (.int .i64) ++ [.int .i64 n], true, true⟩, (H.new [.int .i64 n]).c + 1⟩, ?_, ?_, ?_, ?_⟩
    · simp only [aapp, D22, T3, Option.bind_some, aappend, hx, hk']
      simp [maxBytes]
      omega
    · refine .inr ⟨b, _, by simp, he1.c, by simp, ?_⟩
      simp [Hp.at, hb]
    · refine ⟨?_, ?_, Nat.le_succ_of_le he1.c⟩
      · intro i k hi
        have h1 := he1.pre i k hi
        show ((H.new [.int .i64 n]).bs.set b _)[i]? = some k
        by_cases hib : b = i
        · subst hib
          rw [g1] at h1
          cases h1
          exact absurd (hw0 b _ hi) (Nat.not_lt.2 hv)
        · rw [List.getElem?_set_ne hib]; exact h1
      · intro i k hi
        by_cases hib : b = i
        · subst hib
          simp [hb] at hi
          subst hi
          exact Nat.lt_succ_self _
        · simp only [List.getElem?_set_ne hib] at hi
          exact Nat.lt_succ_of_lt (he1.wf i k hi)
    · intro b' ver' hlt k hk2
      have hk3 := at_new hk2 [.int .i64 n]
      have hbb : b' ≠ b := Hp.at_ne hk3 hk' (by omega)
      have : (⟨(H.new [.int .i64 n]).bs.set b ⟨(H.new [.int .i64 n]).c, l.map (.int .i64) ++ [.int .i64 n], true, true⟩, (H.new [.int .i64 n]).c + 1⟩ : Hp).at b' ver' = (H.new [.int .i64 n]).at b' ver' := by
        simp only [Hp.at]; rw [List.getElem?_set_ne (fun e => hbb e.symm)]
      rw [this]; exact hk3
theorem Own.repS {H0 H : Hp} {v : AV} {l : List Int} (hw : Wf H) (h : Own H0 H v l) : ∃ bs, Rep H0.c H (trS l) v bs ∧ Fresh H0.c H.c bs := by
  rcases h with ⟨rfl, rfl⟩ | ⟨b, ver, rfl, h2, h3, h4⟩
  · exact ⟨[], rep_S.2 (.inl ⟨rfl, rfl, rfl⟩), Fresh.nil _ _⟩
  · exact ⟨[(b, ver)], rep_S.2 (.inr ⟨b, ver, rfl, h2, h3, h4, rfl⟩), Fresh.one h2 (at_lt hw h4)⟩
theorem OwnF.repF {H0 H : Hp} {v : AV} {l : List Int} (hw : Wf H) (h : OwnF H0 H v l) : ∃ bs, Rep H0.c H (trF l) v bs ∧ Fresh H0.c H.c bs := by
  obtain ⟨b, ver, rfl, h2, h4⟩ := h
  exact ⟨[(b, ver)], rep_F.2 ⟨b, ver, rfl, h2, h4, rfl⟩, Fresh.one h2 (at_lt hw h4)⟩
theorem own_one {H0 H : Hp} {v : AV} {l : List Int} (h : Own H0 H v l) : v.one = true := by
  rcases h with ⟨_, rfl⟩ | ⟨b, ver, rfl, _⟩ <;> rfl
theorem ownF_one {H0 H : Hp} {v : AV} {l : List Int} (h : OwnF H0 H v l) : v.one = true := by
  obtain ⟨b, ver, rfl, _⟩ := h; rfl
/- Walks: copied lists, filled tensors. -/
theorem eqnil_sl (b ver o n es : Nat) (f : Bool) : abin T .eql 22 (.sl b ver o n es f) .nilS = some (.bool false) := by simp [abin, D22, anilS]
theorem eqnil_mt : abin T .eql 22 .mtS .nilS = some (.bool false) := by simp [abin, D22, anilS]
theorem eqnil_nil : abin T .eql 22 .nilS .nilS = some (.bool true) := by simp [abin, D22, anilS]
def F103 (args : List AV) (H : Hp) : Option (AV × Hp) := match args with
  | [.nilS] => some (.nilS, H)
  | [.mtS] => some (mk (trC []) H)
  | [.sl b ver o n es f] => (ints H (.sl b ver o n es f)).bind fun l => if l.length < 1099511627776 then some (mk (trC l) H) else none
  | _ => none
theorem snd103 : Sound Try.prog 103 (FSem.eff F103).run := by
  refine sound_of hT (EOK_nil _) mixed A103 Try.func103 hb103 (by kernel_rfl) (by kernel_rfl) (by kernel_rfl) (by kernel_rfl) sh103 1 (by kernel_rfl) rs103 hr103 ?_
  intro args H r H' hw h
  have hv : F103 args H = some (r, H') := h
  clear h
  unfold F103 at hv
  have e1 := eqnil_sl
  have e2 := eqnil_nil
  have hb0 := @xdo_bs22_0
  split at hv
  · cases hv
    refine ⟨rfl, go ?_⟩
    unfold c103
    simp only [argSl]
    repeat' (first | apply goSeq | apply goReg | apply goSeqN | apply goSeqR | apply goSkip | apply goRet | apply goNil | apply goBlock | apply goExit | apply goBlkN | apply goBlkR | apply goBlkE | apply goSeqE | apply goLoopR | apply goLoopE | refine xOp ?_ | refine xOp0 ?_ | refine xYes ?_ | refine xNo ?_ | refine xNoU ?_ | refine xIfT ?_ | refine xIfF ?_ | refine xIf ?_ ?_ | refine xSplit ?_ ?_ | refine xIfQ ?_ ?_ | refine xSplitQ ?_ ?_ | refine xBlkX ?_ | intro _)
    exact goEndS (l := []) hw (Ext.refl hw) (.inl ⟨rfl, rfl⟩) (by simp) (by simp [rs103]) rfl rfl
  · obtain ⟨v', H1, bs, e, h1, h2, h3⟩ := clone_own (y := .mtS) (m := []) (Ext.refl hw) rfl (by decide)
    have e3 := eqnil_mt
    replace hv := Option.some.inj hv
    replace h1 := Hide.mk h1
    replace h2 := Hide.mk h2
    replace h3 := Hide.mk h3
    replace hv := Hide.mk hv
    refine ⟨rfl, go ?_⟩
    unfold c103
    simp only [argSl]
    repeat' (first | apply goSeq | apply goReg | apply goSeqN | apply goSeqR | apply goSkip | apply goRet | apply goNil | apply goBlock | apply goExit | apply goBlkN | apply goBlkR | apply goBlkE | apply goSeqE | apply goLoopR | apply goLoopE | refine xOp ?_ | refine xOp0 ?_ | refine xYes ?_ | refine xNo ?_ | refine xNoU ?_ | refine xIfT ?_ | refine xIfF ?_ | refine xIf ?_ ?_ | refine xSplit ?_ ?_ | refine xIfQ ?_ ?_ | refine xSplitQ ?_ ?_ | refine xBlkX ?_ | intro _)
    exact goEndR (vs := [v']) hw h3.out.pre h1.out h2.out (by simp) (by simp [rs103]) rfl hv.out
  · rename_i b ver o n es f
    obtain ⟨l, hl, hv⟩ := Option.bind_eq_some_iff.1 hv
    split at hv
    rotate_left
    · cases hv
    rename_i hmax
    replace hv := Option.some.inj hv
    obtain ⟨v', H1, bs, e, h1, h2, h3⟩ := clone_own (Ext.refl hw) hl hmax
    replace h1 := Hide.mk h1
    replace h2 := Hide.mk h2
    replace h3 := Hide.mk h3
    replace hv := Hide.mk hv
    refine ⟨rfl, go ?_⟩
    unfold c103
    simp only [argSl]
    repeat' (first | apply goSeq | apply goReg | apply goSeqN | apply goSeqR | apply goSkip | apply goRet | apply goNil | apply goBlock | apply goExit | apply goBlkN | apply goBlkR | apply goBlkE | apply goSeqE | apply goLoopR | apply goLoopE | refine xOp ?_ | refine xOp0 ?_ | refine xYes ?_ | refine xNo ?_ | refine xNoU ?_ | refine xIfT ?_ | refine xIfF ?_ | refine xIf ?_ ?_ | refine xSplit ?_ ?_ | refine xIfQ ?_ ?_ | refine xSplitQ ?_ ?_ | refine xBlkX ?_ | intro _)
    exact goEndR (vs := [v']) hw h3.out.pre h1.out h2.out (by simp) (by simp [rs103]) rfl hv.out
  · cases hv
def F70 (args : List AV) (H : Hp) : Option (AV × Hp) := match args with
  | [v, .int .i64 n] => (ints H v).bind fun s => if s.length < 1099511627776 then some (mk (.agg [trC s, trS (List.replicate (sizeOf s).toNat n)]) H) else none
  | _ => none
theorem prodW_rng : ∀ (l : List Int) (n : Int), shapeGo n l = true → prodW n l ≤ 4096 := by
  intro l
  induction l with
  | nil => intro n h; simpa [shapeGo, prodW] using h
  | cons k l ih =>
    intro n h
    simp only [shapeGo] at h
    split at h
    · cases h
    · exact ih _ h
theorem sizeOf_le (l : List Int) : sizeOf l ≤ 4096 := by
  unfold sizeOf
  split
  · rename_i h
    unfold shapeOK at h
    split at h
    · cases h
    · exact prodW_rng l 1 h
  · omega
set_option maxHeartbeats 1000000 in
theorem snd70 : Sound Try.prog 70 (FSem.eff F70).run := by
  refine sound_of hT (EOK_cons snd100 (EOK_nil _)) mixed A70 Try.func70 hb70 (by kernel_rfl) (by kernel_rfl) (by kernel_rfl) (by kernel_rfl) sh70 2 (by kernel_rfl) rs70 hr70 ?_
  intro args H r H' hw h
  have hv : F70 args H = some (r, H') := h
  clear h
  unfold F70 at hv
  split at hv
  · rename_i v x
    obtain ⟨s, hs, hv⟩ := Option.bind_eq_some_iff.1 hv
    split at hv
    rotate_left
    · cases hv
    rename_i hmax
    replace hv := Option.some.inj hv
    have hle := sizeOf_le s
    have hb0 := @xdo_bs22_0
    -- the result's cell
    have x0 : Ext H (H.new [.nilS, .nilS]) := (Ext.refl hw).new _
    have c0 : OwnC H (H.new [.nilS, .nilS]) H.bs.length H.c [.nilS, .nilS] := ⟨Nat.le_refl _, new_at _ _⟩
    have hvlt : H.c < (H.new [AV.nilS, AV.nilS]).c := Nat.lt_succ_self _
    generalize hH0 : H.new [.nilS, .nilS] = H0 at *
    generalize hp0 : H.bs.length = p0 at *
    generalize hq0 : H.c = q0 at *
    have hs0 := ints_ext x0.pre hs
    -- the shape
    obtain ⟨shv, H1, bsh, e1, r1, f1, x1⟩ := clone_own x0 hs0 hmax
    have hone : shv.one = true := ints_one' (isL.ints (.inr (.inr rfl)) (by omega) r1)
    have hbd := bld40a_one hone
    -- the tensor
    have c2 : OwnC H1 (H1.new [.nilS, .nilS]) H1.bs.length H1.c [.nilS, .nilS] := ⟨Nat.le_refl _, new_at _ _⟩
    have x2 : Ext H1 (H1.new [.nilS, .nilS]) := (Ext.refl x1.wf).new _
    have st := st40 (x := shv) (y := .nilS) (new_at H1 [.nilS, .nilS]) hone rfl
    obtain ⟨c3, x3⟩ := c2.wr x1.wf x2 [shv, .nilS]
    have hq3 : H1.c < ((H1.new [.nilS, .nilS]).put H1.bs.length ⟨H1.c, [shv, .nilS], true, true⟩).c := Nat.lt_succ_self _
    generalize hH2 : H1.new [.nilS, .nilS] = H2 at *
    generalize hp3 : H1.bs.length = p3 at *
    generalize hq3' : H1.c = q3 at *
    generalize hH3 : H2.put p3 ⟨q3, [shv, .nilS], true, true⟩ = H3 at *
    have c0' := (c0.ext x1.pre).ext x3.pre
    have r1' := Rep.ext x3.pre r1
    have x13 : Ext H H3 := (x0.trans x1).trans x3
    have hwB : Wf (H.till H3.c) := Wf.till hw x13.c
    have xB : Ext (H.till H3.c) H3 := x13.till (Nat.le_refl _)
    have hqq : q0 < q3 := by have := x1.c; omega
    have hH0c : H.c ≤ H0.c := x0.c
    have hHq : H.c ≤ q3 := by have := x0.c; have := x1.c; omega
    replace hv := Hide.mk hv
    replace hs := Hide.mk hs
    replace r1' := Hide.mk r1'
    replace c0' := Hide.mk c0'
    replace c3 := Hide.mk c3
    replace f1 := Hide.mk f1
    refine ⟨rfl, go ?_⟩
    unfold c70
    simp only [argSl]
    clear c2 x2 hs0 r1 c0 x0 x1 x3
    replace xB := Hide.mk xB
    replace x13 := Hide.mk x13
    repeat' (first | apply goSeq | apply goReg | apply goSeqN | apply goSeqR | apply goSkip | apply goRet | apply goNil | apply goBlock | apply goExit | apply goBlkN | apply goBlkR | apply goBlkE | apply goSeqE | apply goLoopR | apply goLoopE | refine xOp ?_ | refine xOp0 ?_ | refine xYes ?_ | refine xNo ?_ | refine xNoU ?_ | refine xIfT ?_ | refine xIfF ?_ | refine xIf ?_ ?_ | refine xSplit ?_ ?_ | refine xIfQ ?_ ?_ | refine xSplitQ ?_ ?_ | refine xBlkX ?_ | intro _)
    have hrw : Wf (H.till H3.c) := hwB
    refine goLoop (fun m s1 G => ∃ (i : Nat) (da : AV), m = (sizeOf s).toNat - i ∧ i ≤ (sizeOf s).toNat ∧ get s1 0 = v ∧ get s1 1 = .int .i64 x ∧ get s1 4 = .ptr p0 q0 0 ∧ get s1 5 = .ptr p3 q3 0 ∧ get s1 6 = .int .i64 i ∧ Ext (H.till H3.c) G ∧ OwnC H G p0 q0 [.nilS, .nilS] ∧ OwnC H1 G p3 q3 [shv, da] ∧ Rep H0.c G (trC s) shv bsh ∧ Own (H.till H3.c) G da (List.replicate i x)) (sizeOf s).toNat ?_ ?_
    · exact ⟨0, .nilS, rfl, Nat.zero_le _, rfl, rfl, rfl, rfl, rfl, xB.out, c0'.out, c3.out, r1'.out, .inl ⟨rfl, rfl⟩⟩
    clear hH0 hp0 hq0 hH2 hp3 hH3 e1 st hbd hb0 r1' c0' c3
    rintro m s1 G ⟨i, da, hmm, hi, g1, g2, g3, g4, g5, hx, d0, d3, hr, ho⟩
    simp only [cut_cons, cut_nil, g1, g2, g3, g4, g5]
    clear g1 g2 g3 g4 g5
    have hi0 : (0 : Int) ≤ i := Int.natCast_nonneg i
    have hw1 : w ((i : Int) + 1) = ((i + 1 : Nat) : Int) := w_id (by omega)
    have hsG := ints_ext (hx.untill x13.out.c).pre hs.out
    have l1 := ld38 d3.at' 1
    have l2 := ld40 d3.at'
    simp only [List.getElem?_cons_zero, List.getElem?_cons_succ] at l1
    replace hx := Hide.mk hx
    replace hr := Hide.mk hr
    replace ho := Hide.mk ho
    by_cases hin : (i : Int) < sizeOf s
    · replace d0 := Hide.mk d0
      replace d3 := Hide.mk d3
      repeat' (first | apply goSeq | apply goReg | apply goSeqN | apply goSeqR | apply goSkip | apply goRet | apply goNil | apply goBlock | apply goExit | apply goBlkN | apply goBlkR | apply goBlkE | apply goSeqE | apply goLoopR | apply goLoopE | refine xOp ?_ | refine xOp0 ?_ | refine xYes ?_ | refine xNo ?_ | refine xNoU ?_ | refine xIfT ?_ | refine xIfF ?_ | refine xIf ?_ ?_ | refine xSplit ?_ ?_ | refine xIfQ ?_ ?_ | refine xSplitQ ?_ ?_ | refine xBlkX ?_ | intro _)
      obtain ⟨v', G1, e, ho', hx', hk⟩ := app_own2 hwB hx.out ho.out (by simp; omega) x
      refine goOp (v := v') (H' := G1) rfl (by simp [aapp38]; exact e) ?_
      have d3' := d3.out.keep (hk p3 q3 hq3)
      have d0' := d0.out.keep (hk p0 q0 (by show q0 < H3.c; omega))
      have st := st38_1 d3'.at' (own_one ho')
      have hkp : ∀ b' ver', ver' ≠ q3 → Keeps G1 (G1.put p3 ⟨q3, [shv, v'], true, true⟩) b' ver' := fun b' ver' h => Keeps.put d3'.at' h
      clear e
      replace d3' := Hide.mk d3'
      replace ho' := Hide.mk ho'
      replace hx' := Hide.mk hx'
      replace d0' := Hide.mk d0'
      replace hkp := Hide.mk hkp
      replace hk := Hide.mk hk
      repeat' (first | apply goSeq | apply goReg | apply goSeqN | apply goSeqR | apply goSkip | apply goRet | apply goNil | apply goBlock | apply goExit | apply goBlkN | apply goBlkR | apply goBlkE | apply goSeqE | apply goLoopR | apply goLoopE | refine xOp ?_ | refine xOp0 ?_ | refine xYes ?_ | refine xNo ?_ | refine xNoU ?_ | refine xIfT ?_ | refine xIfF ?_ | refine xIf ?_ ?_ | refine xSplit ?_ ?_ | refine xIfQ ?_ ?_ | refine xSplitQ ?_ ?_ | refine xBlkX ?_ | intro _)
      refine goLoopN ((sizeOf s).toNat - (i + 1)) (by omega) ⟨i + 1, v', rfl, by omega, rfl, rfl, rfl, rfl, rfl, ?_, ?_, ?_, ?_, ?_⟩
      · exact (OwnC.wr hw (hx'.out.untill x13.out.c) (b := p3) (ver := q3) (cs := [shv, da]) ⟨hHq, d3'.out.at'⟩ [shv, v']).2.till hx'.out.c
      · exact d0'.out.keep (hkp.out p0 q0 (by omega))
      · exact ⟨d3'.out.new, at_put_same d3'.out.at' rfl⟩
      · refine Rep.keep (trC s) (fun p hp => ?_) hr.out
        have hlt := (f1.out.2 p hp).2
        exact (hk.out p.1 p.2 (by show p.2 < H3.c; omega)).trans (hkp.out p.1 p.2 (by omega))
      · rw [List.replicate_succ']
        exact ho'.out.keep fun b' ver' h => hkp.out b' ver' (by have : H3.c ≤ ver' := h; omega)
    · have hin' : i = (sizeOf s).toNat := by omega
      have d0' := d0.at'
      have d3' := d3.at'
      obtain ⟨bd, rd, fd⟩ := ho.out.repS hx.out.wf
      have hod := own_one ho.out
      have st := st40 (x := shv) (y := da) d0' hone hod
      have hkp : ∀ b' ver', ver' ≠ q0 → Keeps G (G.put p0 ⟨q0, [shv, da], true, true⟩) b' ver' := fun b' ver' h => Keeps.put d0' h
      have lr := ld40 (at_put_same (k' := ⟨q0, [shv, da], true, true⟩) d0' rfl)
      have hp := (OwnC.wr hw (hx.out.untill x13.out.c) d0 [shv, da]).2
      replace d0 := Hide.mk d0
      replace d3 := Hide.mk d3
      replace d0' := Hide.mk d0'
      replace d3' := Hide.mk d3'
      replace hkp := Hide.mk hkp
      replace rd := Hide.mk rd
      replace fd := Hide.mk fd
      replace hp := Hide.mk hp
      replace hin' := Hide.mk hin'
      repeat' (first | apply goSeq | apply goReg | apply goSeqN | apply goSeqR | apply goSkip | apply goRet | apply goNil | apply goBlock | apply goExit | apply goBlkN | apply goBlkR | apply goBlkE | apply goSeqE | apply goLoopR | apply goLoopE | refine xOp ?_ | refine xOp0 ?_ | refine xYes ?_ | refine xNo ?_ | refine xNoU ?_ | refine xIfT ?_ | refine xIfF ?_ | refine xIf ?_ ?_ | refine xSplit ?_ ?_ | refine xIfQ ?_ ?_ | refine xSplitQ ?_ ?_ | refine xBlkX ?_ | intro _)
      have hin' := hin'.out
      refine goEndR (vs := [.agg [shv, da]]) (bs := bsh ++ bd) (d := G.c) (t := .agg [trC s, trS (List.replicate (sizeOf s).toNat x)]) hw hp.out.pre ?_ ?_ (by simp) (by simp [rs70, lr]) rfl hv.out
      · refine rep_agg2.2 ⟨shv, da, bsh, bd, rfl, ?_, ?_, rfl⟩
        · have := Rep.keep (trC s) (fun p hp => hkp.out p.1 p.2 (by have := (f1.out.2 p hp).1; omega)) hr.out
          exact rep_down _ (c0 := 0) (okT_C 0 s) (Nat.zero_le _) (by omega) this
        · rw [← hin']
          have := Rep.keep (trS (List.replicate i x)) (fun p hp => hkp.out p.1 p.2 (by have : H3.c ≤ p.2 := (fd.out.2 p hp).1; omega)) rd.out
          exact rep_down _ (c0 := 0) (okT_S 0 _) (Nat.zero_le _) x13.out.c this
      · exact (f1.out.wide hH0c (Nat.le_of_lt hq3)).app fd.out x13.out.c hx.out.c
  · cases hv
/- Regions that look at some things again; writes into own lists. -/
structure YT (E : Env) (T : Tab) (sh : Bool) (full : List Co) (rs : List (Nat × Nat)) (l : List Co) (s : Sl) (H : Hp) (tr : List (Sl × Hp)) (k : Ct) : Prop where
  out : XT E T sh l s H tr fun tr' s' H' => again E T sh full tr' rs ∧ k.den E T .norm s' H'
section
variable {E : Env} {sh : Bool} {full : List Co} {rs : List (Nat × Nat)} {s : Sl} {H : Hp} {tr : List (Sl × Hp)} {k : Ct}
theorem goDrw {l : List Co} (h : YT E T sh l rs l s H [] k) : Y E T (.drw sh l rs) s H k := ⟨h.out⟩
theorem goTOp {d o l v H' q} (e : xdo E T sh o s H = q) (eq : q = some (v, H')) (h : YT E T sh full rs l ((d, v) :: s) H' (tr ++ [(s, H)]) k) : YT E T sh full rs (⟨some d, o, none⟩ :: l) s H tr k := ⟨by
  simp only [XT, XG_none, e, eq, opt_some]; exact h.out⟩
theorem goTOp0 {o l v H' q} (e : xdo E T sh o s H = q) (eq : q = some (v, H')) (h : YT E T sh full rs l s H' (tr ++ [(s, H)]) k) : YT E T sh full rs (⟨none, o, none⟩ :: l) s H tr k := ⟨by
  simp only [XT, XG_none, e, eq, opt_some]; exact h.out⟩
theorem goTNil (ha : again E T sh full (tr ++ [(s, H)]) rs) (h : K E T k .norm s H) : YT E T sh full rs [] s H tr k := ⟨⟨ha, h.out⟩⟩
end
theorem Keeps.put2 {H : Hp} {b ver b' ver' : Nat} {k k' : Blk} (hk : H.at b ver = some k) (hne : (b', ver') ≠ (b, ver)) : Keeps H (H.put b k') b' ver' := by
  intro x hx
  by_cases hv : ver' = ver
  · subst hv
    have : b' ≠ b := fun e => hne (by rw [e])
    rw [at_put this]; exact hx
  · exact Keeps.put hk hv x hx
theorem put_ext {H0 H : Hp} {b ver : Nat} {k : Blk} {cs : List AV} (hw0 : Wf H0) (he : Ext H0 H) (hv : H0.c ≤ ver) (hk : H.at b ver = some k) : Ext H0 (H.put b ⟨ver, cs, true, true⟩) := by
  obtain ⟨g1, g2⟩ := Hp.at_some hk
  have hb := (List.getElem?_eq_some_iff.1 g1).1
  refine ⟨?_, ?_, he.c⟩
  · intro i k' hi
    have h1 := he.pre i k' hi
    show (H.bs.set b _)[i]? = some k'
    by_cases hib : b = i
    · subst hib
      rw [g1] at h1
      cases h1
      exact absurd (hw0 b _ hi) (by omega)
    · rw [List.getElem?_set_ne hib]; exact h1
  · intro i k' hi
    simp only [Hp.put] at hi ⊢
    by_cases hib : b = i
    · subst hib
      simp [hb] at hi
      subst hi
      have := he.wf b _ g1
      show ver < H.c
      omega
    · rw [List.getElem?_set_ne hib] at hi
      exact he.wf i k' hi
def trB (f : Bool) (l : List Int) : Tr := if f = true then trF l else trS l
theorem rep_B {f : Bool} {c : Nat} {H : Hp} {l : List Int} {v : AV} {bs : List (Nat × Nat)} : Rep c H (trB f l) v bs ↔ (f = false ∧ l = [] ∧ v = .nilS ∧ bs = []) ∨ ∃ b ver, v = .sl b ver 0 l.length 1 f ∧ c ≤ ver ∧ (f = false → l ≠ []) ∧ H.at b ver = some ⟨ver, l.map (.int .i64), true, true⟩ ∧ bs = [(b, ver)] := by
  cases f
  · simp only [trB, Bool.false_eq_true, if_false]
    rw [rep_S]
    simp
  · simp only [trB, if_true]
    rw [rep_F]
    simp
/-- A number of an own list is written. -/
theorem rep_store {f : Bool} {c : Nat} {H : Hp} {l : List Int} {v : AV} {bs : List (Nat × Nat)} {t : Nat} (ht : t = 3 ∨ t = 2) (h : Rep c H (trB f l) v bs) (j : Nat) (hj : j < l.length) (x : Int) :
    ∃ H', astore T t (pAt v j) (.int .i64 x) H = some H' ∧ Rep c H' (trB f (l.set j x)) v bs ∧ (∀ b ver, (b, ver) ∉ bs → Keeps H H' b ver) ∧ (∀ H0, Wf H0 → Ext H0 H → H0.c ≤ c → Ext H0 H') ∧ H'.c = H.c := by
  rcases rep_B.1 h with ⟨_, rfl, _⟩ | ⟨b, ver, rfl, hv, hne, hk, rfl⟩
  · simp at hj
  · obtain ⟨g1, g2⟩ := Hp.at_some hk
    have hb := (List.getElem?_eq_some_iff.1 g1).1
    have hT : ∃ ti, T t = some ti ∧ ti.size = 1 ∧ ti.d = .int .i64 := by
      rcases ht with rfl | rfl
      · exact ⟨_, T3, rfl, rfl⟩
      · exact ⟨_, T2, rfl, rfl⟩
    obtain ⟨ti, hT, hsz, _⟩ := hT
    refine ⟨H.put b ⟨ver, (l.set j x).map (.int .i64), true, true⟩, ?_, ?_, ?_, ?_, rfl⟩
    · simp only [astore, hT, pAt, hk]
      rw [if_pos (by simp [AV.cells, AV.one, hsz]; omega)]
      have := setAll_one l j x
      simp only [Int.toNat_natCast, Nat.zero_add, Nat.mul_one, AV.cells, this]
    · refine rep_B.2 (.inr ⟨b, ver, by simp, hv, ?_, by simp [Hp.at, Hp.put, hb], rfl⟩)
      intro hf e
      have := congrArg List.length e
      simp at this
      subst this
      simp at hj
    · intro b' ver' hm
      exact Keeps.put2 hk (by simpa using hm)
    · intro H0 hw0 he hc
      exact put_ext hw0 he (Nat.le_trans hc hv) hk
theorem trS_B (l : List Int) : trB false l = trS l := by simp [trB]
theorem trF_B (l : List Int) : trB true l = trF l := by simp [trB]
/-- The end of a walk over a tape that was read on. -/
theorem goEndPt {E : Env} {H0 H : Hp} {b ver : Nat} {v0 : AV} {l0 : List Int} {a a' : Nat} {x : Ex} {s : Sl} {rs : List ResultVar} {q : Option (List AV)} {vs : List AV} {r : AV} {Hr : Hp} (hw : Wf H0) (ht : Tape H0 b ver v0 l0 a) (he : Pre (tapePut H0 b ver v0 a') H) (hx : x = .norm ∨ x = .ret) (e : xres T s H rs = q) (eq : q = some vs) (hr : (xret vs).rel (tapePut H0 b ver v0 a').bs.length (tapePut H0 b ver v0 a').c [] = r) (hh : tapePut H0 b ver v0 a' = Hr) :
    K E T (.fin fun x s' H2 => (x = .norm ∨ x = .ret) ∧ ∃ vs js, xres T s' H2 rs = some vs ∧ Can H0 H2 Hr (xret vs) r js) x s H := by
  subst hh
  exact ⟨⟨hx, vs, [], e.trans eq, (Can.pure (ht.wf hw) he hr).tape hw ht⟩⟩
theorem goEndRt {E : Env} {H0 H : Hp} {b ver : Nat} {v0 : AV} {l0 : List Int} {a a' : Nat} {x : Ex} {s : Sl} {rs : List ResultVar} {q : Option (List AV)} {vs : List AV} {t : Tr} {bs : List (Nat × Nat)} {d : Nat} {r : AV} {Hr : Hp} (hw : Wf H0) (ht : Tape H0 b ver v0 l0 a) (he : Pre (tapePut H0 b ver v0 a') H) (ho : Rep H0.c H t (xret vs) bs) (hf : Fresh H0.c d bs) (hx : x = .norm ∨ x = .ret) (e : xres T s H rs = q) (eq : q = some vs) (hr : mk t (tapePut H0 b ver v0 a') = (r, Hr)) :
    K E T (.fin fun x s' H2 => (x = .norm ∨ x = .ret) ∧ ∃ vs js, xres T s' H2 rs = some vs ∧ Can H0 H2 Hr (xret vs) r js) x s H := by
  have := can_rep (ht.wf hw) he (t := t) (v := xret vs) (bs := bs) ho hf.1
  rw [hr] at this
  exact ⟨⟨hx, vs, bs, e.trans eq, this.tape hw ht⟩⟩
theorem Keeps.tape {H : Hp} {b ver : Nat} {v : AV} {l : List Int} {a a' : Nat} (ht : Tape H b ver v l a) {b' ver' : Nat} (hv : ver' ≠ ver) : Keeps H (tapePut H b ver v a') b' ver' := Keeps.put ht.at' hv
/- Walks: numbers and tensors of a tape. -/
def numLits : List Int := [9223372036854775807, -9223372036854775808, 4611686018427387904, -1099511627776, 8589934592, 3037000500]
theorem xdo_bs38_6 {E : Env} {sh : Bool} {s : Sl} {H : Hp} : xdo E T sh (.buildSlice 38 6 #[(0, (.const (.int .i64 9223372036854775807))), (1, (.const (.int .i64 (-9223372036854775808)))), (2, (.const (.int .i64 4611686018427387904))), (3, (.const (.int .i64 (-1099511627776)))), (4, (.const (.int .i64 8589934592))), (5, (.const (.int .i64 3037000500)))]) s H = some (.sl H.bs.length H.c 0 6 1 true, H.new (numLits.map (.int .i64))) := by
  simp [xdo, aop, D38, T2, rep, afill, setAll, AV.cells, AV.one, numLits]
/-- A number of a tape. -/
def numT (l : List Int) (a : Nat) : Int × Nat :=
  if nextOf l a 9 = 0 then (nth numLits (nextOf l (nextAt l a 9) 6), nextAt l (nextAt l a 9) 6)
  else if nextOf l a 9 = 1 then (0, nextAt l a 9)
  else (w (nextOf l (nextAt l a 9) 19 - 9), nextAt l (nextAt l a 9) 19)
theorem numT_le {l : List Int} {a : Nat} (h : a ≤ l.length) : (numT l a).2 ≤ l.length := by
  unfold numT
  split
  · exact nextAt_le (nextAt_le h)
  · split
    · exact nextAt_le h
    · exact nextAt_le (nextAt_le h)
noncomputable def F133 (args : List AV) (H : Hp) : Option (AV × Hp) := match args with
  | [.ptr b ver 0] => tapeF H b ver fun v l a => (.int .i64 (numT l a).1, tapePut H b ver v (numT l a).2)
  | _ => none
theorem F133_at {H : Hp} {b ver : Nat} {v : AV} {l : List Int} {a : Nat} (h : Tape H b ver v l a) : F133 [.ptr b ver 0] H = some (.int .i64 (numT l a).1, tapePut H b ver v (numT l a).2) := by
  simp only [F133]; exact tapeF_at h
set_option maxHeartbeats 1000000 in
theorem snd133 : Sound Try.prog 133 (FSem.eff F133).run := by
  refine sound_of hT (EOK_cons snd16 (EOK_nil _)) mixed A133 Try.func133 hb133 (by kernel_rfl) (by kernel_rfl) (by kernel_rfl) (by kernel_rfl) sh133 1 (by kernel_rfl) rs133 hr133 ?_
  intro args H r H' hw h
  have hv : F133 args H = some (r, H') := h
  clear h
  unfold F133 at hv
  split at hv
  · rename_i b ver
    obtain ⟨v, l, a, ht, hv⟩ := tapeF_some hv
    obtain ⟨rfl, rfl⟩ := Prod.mk.inj hv
    clear hv
    have e1 := F16_at ht 9
    obtain ⟨k0, k9⟩ := next_range (a' := a) ht 9 (by omega)
    have ht1 : Tape (tapePut H b ver v (nextAt l a 9)) b ver v l (nextAt l a 9) := ht.put (nextAt_le ht.le)
    have hw1 := ht.wf (a' := nextAt l a 9) hw
    have hb6 := @xdo_bs38_6
    refine ⟨rfl, go ?_⟩
    unfold c133
    simp only [argSl]
    replace ht := Hide.mk ht
    generalize hk : nextOf l a 9 = k at *
    by_cases h0 : k = 0
    · subst h0
      have hres : numT l a = (nth numLits (nextOf l (nextAt l a 9) 6), nextAt l (nextAt l a 9) 6) := by simp [numT, hk]
      rw [hres]
      obtain ⟨j0, j6⟩ := next_range (a' := nextAt l a 9) ht.out 6 (by omega)
      have hbl : b < (tapePut H b ver v (nextAt l a 9)).bs.length := (List.getElem?_eq_some_iff.1 (Hp.at_some ht1.at').1).1
      have hpp : tapePut (tapePut H b ver v (nextAt l a 9)) b ver v (nextAt l (nextAt l a 9) 6) = tapePut H b ver v (nextAt l (nextAt l a 9) 6) := tape_tape _ _ _ _ _ _
      have hx6 : Ext (tapePut H b ver v (nextAt l a 9)) ((tapePut H b ver v (nextAt l a 9)).new (numLits.map (.int .i64))) := (Ext.refl hw1).new _
      have hpre := (Ext.tape (a' := nextAt l (nextAt l a 9) 6) ht1 hx6).pre
      rw [hpp] at hpre
      generalize hG : tapePut H b ver v (nextAt l a 9) = G at *
      have ht2 : Tape (G.new (numLits.map (.int .i64))) b ver v l (nextAt l a 9) := ht1.ext hx6.pre
      have e2 := F16_at ht2 6
      have hil : ints (tapePut (G.new (numLits.map (.int .i64))) b ver v (nextAt l (nextAt l a 9) 6)) (.sl G.bs.length G.c 0 6 1 true) = some numLits := by
        unfold tapePut
        rw [ints_put (by simp [off]; omega)]
        exact ints_of_ownF (mkF_own G numLits) (by decide)
      have hix := aidxS_ints hil .i64
      have hld := aload_nth T2 rfl hil
      simp only [← aidx38, show ((numLits.length : Nat) : Int) = 6 from rfl] at hix hld
      replace ht1 := Hide.mk ht1
      replace ht2 := Hide.mk ht2
      replace hpre := Hide.mk hpre
      clear hil hx6 hres hpp hG
      repeat' (first | apply goSeq | apply goReg | apply goSeqN | apply goSeqR | apply goSkip | apply goRet | apply goNil | apply goBlock | apply goExit | apply goBlkN | apply goBlkR | apply goBlkE | apply goSeqE | apply goLoopR | apply goLoopE | refine xOp ?_ | refine xOp0 ?_ | refine xYes ?_ | refine xNo ?_ | refine xNoU ?_ | refine xIfT ?_ | refine xIfF ?_ | refine xIf ?_ ?_ | refine xSplit ?_ ?_ | refine xIfQ ?_ ?_ | refine xSplitQ ?_ ?_ | refine xBlkX ?_ | intro _)
      exact goEndPt hw ht.out hpre.out (by simp) (by simp [rs133]; exact rfl) rfl rfl rfl
    · by_cases h1 : k = 1
      · subst h1
        have hres : numT l a = (0, nextAt l a 9) := by simp [numT, hk]
        rw [hres]
        replace ht1 := Hide.mk ht1
        clear hres
        repeat' (first | apply goSeq | apply goReg | apply goSeqN | apply goSeqR | apply goSkip | apply goRet | apply goNil | apply goBlock | apply goExit | apply goBlkN | apply goBlkR | apply goBlkE | apply goSeqE | apply goLoopR | apply goLoopE | refine xOp ?_ | refine xOp0 ?_ | refine xYes ?_ | refine xNo ?_ | refine xNoU ?_ | refine xIfT ?_ | refine xIfF ?_ | refine xIf ?_ ?_ | refine xSplit ?_ ?_ | refine xIfQ ?_ ?_ | refine xSplitQ ?_ ?_ | refine xBlkX ?_ | intro _)
        exact goEndPt hw ht.out (Pre.refl _) (by simp) (by simp [rs133]; exact rfl) rfl rfl rfl
      · have hres : numT l a = (w (nextOf l (nextAt l a 9) 19 - 9), nextAt l (nextAt l a 9) 19) := by simp [numT, hk, h0, h1]
        rw [hres]
        have e2 := F16_at ht1 19
        rw [tape_tape] at e2
        replace ht1 := Hide.mk ht1
        clear hres
        repeat' (first | apply goSeq | apply goReg | apply goSeqN | apply goSeqR | apply goSkip | apply goRet | apply goNil | apply goBlock | apply goExit | apply goBlkN | apply goBlkR | apply goBlkE | apply goSeqE | apply goLoopR | apply goLoopE | refine xOp ?_ | refine xOp0 ?_ | refine xYes ?_ | refine xNo ?_ | refine xNoU ?_ | refine xIfT ?_ | refine xIfF ?_ | refine xIf ?_ ?_ | refine xSplit ?_ ?_ | refine xIfQ ?_ ?_ | refine xSplitQ ?_ ?_ | refine xBlkX ?_ | intro _)
        exact goEndPt hw ht.out (Pre.refl _) (by simp) (by simp [rs133]; exact rfl) rfl rfl rfl
  · cases hv
/-- A tensor's numbers of a tape. -/
def dataT (l : List Int) : Nat → Nat → List Int × Nat
  | 0, a => ([], a)
  | n + 1, a => ((numT l a).1 :: (dataT l n (numT l a).2).1, (dataT l n (numT l a).2).2)
theorem dataT_len (l : List Int) : ∀ n a, (dataT l n a).1.length = n := by
  intro n
  induction n with
  | zero => intro a; rfl
  | succ n ih => intro a; simp [dataT, ih]
theorem dataT_le {l : List Int} : ∀ n a, a ≤ l.length → (dataT l n a).2 ≤ l.length := by
  intro n
  induction n with
  | zero => intro a h; exact h
  | succ n ih => intro a h; exact ih _ (numT_le h)
noncomputable def F80 (args : List AV) (H : Hp) : Option (AV × Hp) := match args with
  | [.ptr b ver 0, sh] => (ints H sh).bind fun s => if s.length < 1099511627776 then tapeF H b ver fun v l a => mk (.agg [trC s, trS (dataT l (sizeOf s).toNat a).1]) (tapePut H b ver v (dataT l (sizeOf s).toNat a).2) else none
  | _ => none
set_option maxHeartbeats 2000000 in
theorem snd80 : Sound Try.prog 80 (FSem.eff F80).run := by
  refine sound_of hT (EOK_cons snd70 (EOK_cons snd133 (EOK_nil _))) mixed A80 Try.func80 hb80 (by kernel_rfl) (by kernel_rfl) (by kernel_rfl) (by kernel_rfl) sh80 2 (by kernel_rfl) rs80 hr80 ?_
  intro args H r H' hw h
  have hv : F80 args H = some (r, H') := h
  clear h
  unfold F80 at hv
  split at hv
  · rename_i b ver sh
    obtain ⟨s, hs, hv⟩ := Option.bind_eq_some_iff.1 hv
    split at hv
    rotate_left
    · cases hv
    rename_i hmax
    obtain ⟨v, l, a, ht, hv⟩ := tapeF_some hv
    have hle := sizeOf_le s
    have hver : ver < H.c := at_lt hw ht.at'
    generalize hn : (sizeOf s).toNat = n at *
    generalize hFL : (dataT l n a).1 = FL at *
    generalize hFA : (dataT l n a).2 = FA at *
    -- the result's cell
    have x0 : Ext H (H.new [.nilS, .nilS]) := (Ext.refl hw).new _
    have c0 : OwnC H (H.new [.nilS, .nilS]) H.bs.length H.c [.nilS, .nilS] := ⟨Nat.le_refl _, new_at _ _⟩
    have hvlt : H.c < (H.new [AV.nilS, AV.nilS]).c := Nat.lt_succ_self _
    generalize hH0 : H.new [.nilS, .nilS] = H0 at *
    generalize hp0 : H.bs.length = p0 at *
    generalize hq0 : H.c = q0 at *
    have hs0 := ints_ext x0.pre hs
    -- filled
    have e70 : F70 [sh, .int .i64 0] H0 = some (mk (.agg [trC s, trS (List.replicate n 0)]) H0) := by
      show (ints H0 sh).bind _ = _
      rw [hs0, Option.bind_some, if_pos hmax, hn]
    obtain ⟨bs, r1, f1, x1, t1⟩ := mk_tens (H := H0) x0.wf (a := trC s) (b := trS (List.replicate n 0)) (s := s) (d := List.replicate n 0) (.inr (.inr rfl)) (.inl rfl) (by omega) (by simp; omega)
    generalize hr1 : mk (.agg [trC s, trS (List.replicate n 0)]) H0 = tt at *
    obtain ⟨t0, H1⟩ := tt
    simp only at r1 f1 x1 t1
    obtain ⟨shv, dav, b1, b2, rfl, rs1, rd1, rfl⟩ := rep_agg2.1 r1
    obtain ⟨_, _, hag, hsi, hdi⟩ := tens_some t1
    cases hag
    have hone := ints_one' hsi
    have hone2 := ints_one' hdi
    have hdl : alen T 38 dav = some (.int .i64 n) := by rw [alen38, alenS_ints hdi]; simp
    -- the tensor
    have c2 : OwnC H1 (H1.new [.nilS, .nilS]) H1.bs.length H1.c [.nilS, .nilS] := ⟨Nat.le_refl _, new_at _ _⟩
    have x2 : Ext H1 (H1.new [.nilS, .nilS]) := (Ext.refl x1.wf).new _
    have st := st40 (x := shv) (y := dav) (new_at H1 [.nilS, .nilS]) hone hone2
    obtain ⟨c3, x3⟩ := c2.wr x1.wf x2 [shv, dav]
    generalize hH2 : H1.new [.nilS, .nilS] = H2 at *
    generalize hp3 : H1.bs.length = p3 at *
    generalize hq3' : H1.c = q3 at *
    generalize hH3 : H2.put p3 ⟨q3, [shv, dav], true, true⟩ = H3 at *
    have l1 := ld38 c3.at' 1
    simp only [List.getElem?_cons_zero, List.getElem?_cons_succ] at l1
    have c0' := (c0.ext x1.pre).ext x3.pre
    have rs3 := Rep.ext x3.pre rs1
    have rd3 := Rep.ext x3.pre rd1
    have x13 : Ext H H3 := (x0.trans x1).trans x3
    have hH0c : q0 ≤ H0.c := by omega
    have h03 : H0.c ≤ q3 := by have := x1.c; omega
    replace hv := Hide.mk hv
    replace hs := Hide.mk hs
    replace ht := Hide.mk ht
    replace f1 := Hide.mk f1
    replace rs3 := Hide.mk rs3
    replace rd3 := Hide.mk rd3
    replace c0' := Hide.mk c0'
    replace c3 := Hide.mk c3
    replace x13 := Hide.mk x13
    clear c2 x2 hs0 r1 c0 x1 x3 t1 rs1 rd1 hsi hdi x0 hr1
    refine ⟨rfl, go ?_⟩
    unfold c80
    simp only [argSl]
    repeat' (first | apply goSeq | apply goReg | apply goSeqN | apply goSeqR | apply goSkip | apply goRet | apply goNil | apply goBlock | apply goExit | apply goBlkN | apply goBlkR | apply goBlkE | apply goSeqE | apply goLoopR | apply goLoopE | refine xOp ?_ | refine xOp0 ?_ | refine xYes ?_ | refine xNo ?_ | refine xNoU ?_ | refine xIfT ?_ | refine xIfF ?_ | refine xIf ?_ ?_ | refine xSplit ?_ ?_ | refine xIfQ ?_ ?_ | refine xSplitQ ?_ ?_ | refine xBlkX ?_ | intro _)
    have hFLh := Hide.mk hFL
    have hFAh := Hide.mk hFA
    clear hFL hFA hH0 hp0 hH2 hp3 hH3 e70 st hdl l1
    refine goLoop (fun m s1 G => ∃ (i a1 : Nat) (L : List Int), m = n - i ∧ i ≤ n ∧ a1 ≤ l.length ∧ L.length = n ∧ get s1 0 = .ptr b ver 0 ∧ get s1 4 = .ptr p0 q0 0 ∧ get s1 5 = .ptr p3 q3 0 ∧ get s1 11 = .int .i64 n ∧ get s1 12 = .int .i64 i ∧ Ext (tapePut H b ver v a1) G ∧ OwnC H G p0 q0 [.nilS, .nilS] ∧ OwnC H1 G p3 q3 [shv, dav] ∧ Rep H0.c G (trC s) shv b1 ∧ Rep H0.c G (trS L) dav b2 ∧ L.take i ++ (dataT l (n - i) a1).1 = FL ∧ (dataT l (n - i) a1).2 = FA) n ?_ ?_
    · refine ⟨0, a, List.replicate n 0, rfl, Nat.zero_le _, ht.out.le, by simp, rfl, rfl, rfl, rfl, rfl, ?_, c0'.out, c3.out, rs3.out, rd3.out, by simpa using hFLh.out, hFAh.out⟩
      have hself : tapePut H b ver v a = H := put_self ht.out.at'
      rw [hself]; exact x13.out
    clear c0' c3 rs3 rd3
    rintro m s1 G ⟨i, a1, L, hmm, hi, ha1, hLn, g1, g2, g3, g4, g5, hx, d0, d3, hr, hd, hL, hA⟩
    simp only [cut_cons, cut_nil, g1, g2, g3, g4, g5]
    clear g1 g2 g3 g4 g5
    have hi0 : (0 : Int) ≤ i := Int.natCast_nonneg i
    have hw1 : w ((i : Int) + 1) = ((i + 1 : Nat) : Int) := w_id (by omega)
    have hwp := ht.out.wf (a' := a1) hw
    have l1 := ld38 d3.at' 1
    have l2 := ld40 d3.at'
    simp only [List.getElem?_cons_zero, List.getElem?_cons_succ] at l1
    replace hr := Hide.mk hr
    replace hL := Hide.mk hL
    replace hA := Hide.mk hA
    replace hLn := Hide.mk hLn
    by_cases hin : i < n
    · have ta : Tape G b ver v l a1 := (ht.out.put ha1).ext hx.pre
      have e1 := F133_at ta
      have hx2 := Ext.tape (a' := (numT l a1).2) (ht.out.put ha1) hx
      rw [tape_tape] at hx2
      have hwp2 := ht.out.wf (a' := (numT l a1).2) hw
      have k1 : ∀ b' ver', ver' ≠ ver → Keeps G (tapePut G b ver v (numT l a1).2) b' ver' := fun b' ver' h => Keeps.tape ta h
      have hd1 := Rep.keep (trS L) (fun p hp => k1 p.1 p.2 (by have := (f1.out.2 p (by simp [hp])).1; omega)) hd
      have hr1 := Rep.keep (trC s) (fun p hp => k1 p.1 p.2 (by have := (f1.out.2 p (by simp [hp])).1; omega)) hr.out
      have d31 := d3.keep (k1 p3 q3 (by omega))
      have d01 := d0.keep (k1 p0 q0 (by omega))
      have l1' := ld38 d31.at' 1
      simp only [List.getElem?_cons_zero, List.getElem?_cons_succ] at l1'
      have hixd : aidx T 38 dav (.int .i64 i) = some (pAt dav i) := by
        have := aidxS_ints (isL.ints (.inl rfl) (by rw [hLn.out]; omega) hd) .i64 i
        rw [aidx38, this, if_pos (by rw [hLn.out]; omega)]
      rw [← trS_B] at hd1
      generalize hG1 : tapePut G b ver v (numT l a1).2 = G1 at *
      obtain ⟨G2, e2, hd2, hk2, hx3, _⟩ := rep_store (.inr rfl) hd1 i (by rw [hLn.out]; exact hin) (numT l a1).1
      have hd12 := List.nodup_append.1 f1.out.1
      have hr2 := Rep.keep (trC s) (fun p hp => hk2 p.1 p.2 (fun hm => hd12.2.2 p hp p hm rfl)) hr1
      have d32 := d31.keep (hk2 p3 q3 (fun hm => by have := (f1.out.2 _ (List.mem_append_right _ hm)).2; simp only at this; omega))
      have d02 := d01.keep (hk2 p0 q0 (fun hm => by have := (f1.out.2 _ (List.mem_append_right _ hm)).1; simp only at this; omega))
      have hx4 := hx3 _ hwp2 hx2 (by show H.c ≤ H0.c; omega)
      replace hx4 := Hide.mk hx4
      replace d32 := Hide.mk d32
      replace d02 := Hide.mk d02
      replace hr2 := Hide.mk hr2
      replace hd2 := Hide.mk hd2
      replace ta := Hide.mk ta
      clear hx hx2 hx3 d0 d3 d01 d31 hr1 hd1 hd k1 hk2 hd12
      have hin' : (i : Int) < n := by omega
      repeat' (first | apply goSeq | apply goReg | apply goSeqN | apply goSeqR | apply goSkip | apply goRet | apply goNil | apply goBlock | apply goExit | apply goBlkN | apply goBlkR | apply goBlkE | apply goSeqE | apply goLoopR | apply goLoopE | refine xOp ?_ | refine xOp0 ?_ | refine xYes ?_ | refine xNo ?_ | refine xNoU ?_ | refine xIfT ?_ | refine xIfF ?_ | refine xIf ?_ ?_ | refine xSplit ?_ ?_ | refine xIfQ ?_ ?_ | refine xSplitQ ?_ ?_ | refine xBlkX ?_ | intro _)
      apply goDrw
      iterate 6 (apply goTOp; (· (simp [*]; try exact rfl)); (· exact rfl))
      apply goTOp0; (· (simp [*]; try exact rfl)); (· exact rfl)
      refine goTNil (by simp [again, XG_none, l1, l1']) ?_
      repeat' (first | apply goSeq | apply goReg | apply goSeqN | apply goSeqR | apply goSkip | apply goRet | apply goNil | apply goBlock | apply goExit | apply goBlkN | apply goBlkR | apply goBlkE | apply goSeqE | apply goLoopR | apply goLoopE | refine xOp ?_ | refine xOp0 ?_ | refine xYes ?_ | refine xNo ?_ | refine xNoU ?_ | refine xIfT ?_ | refine xIfF ?_ | refine xIf ?_ ?_ | refine xSplit ?_ ?_ | refine xIfQ ?_ ?_ | refine xSplitQ ?_ ?_ | refine xBlkX ?_ | intro _)
      have hLn := hLn.out
      have e3 : dataT l (n - i) a1 = ((numT l a1).1 :: (dataT l (n - (i + 1)) (numT l a1).2).1, (dataT l (n - (i + 1)) (numT l a1).2).2) := by
        rw [show n - i = (n - (i + 1)) + 1 by omega]; rfl
      refine goLoopN (n - (i + 1)) (by omega) ⟨i + 1, (numT l a1).2, L.set i (numT l a1).1, rfl, by omega, numT_le ha1, by simp [hLn], rfl, rfl, rfl, rfl, rfl, hx4.out, d02.out, d32.out, hr2.out, by rw [← trS_B]; exact hd2.out, ?_, ?_⟩
      · rw [take_set1 L i _ (by omega), ← hL.out, e3, List.append_assoc]; rfl
      · rw [← hA.out, e3]
    · have hin' : ¬ (i : Int) < n := by omega
      have hdl := alenS_ints (isL.ints (.inl rfl) (by rw [hLn.out]; omega) hd)
      have d0' := d0.at'
      have st := st40 (x := shv) (y := dav) d0' hone hone2
      have hkp : ∀ b' ver', ver' ≠ q0 → Keeps G (G.put p0 ⟨q0, [shv, dav], true, true⟩) b' ver' := fun b' ver' h => Keeps.put d0' h
      have lr := ld40 (at_put_same (k' := ⟨q0, [shv, dav], true, true⟩) d0' rfl)
      have hp := put_ext (cs := [shv, dav]) hwp hx (by show H.c ≤ q0; omega) d0'
      have hFA2 : a1 = FA := by
        have := hA.out
        rw [show n - i = 0 by omega] at this
        exact this
      have hFL2 : L = FL := by
        have := hL.out
        rw [show n - i = 0 by omega] at this
        simp only [dataT, List.append_nil] at this
        rw [List.take_of_length_le (by rw [hLn.out]; omega)] at this
        exact this
      subst hFA2
      subst hFL2
      replace d0 := Hide.mk d0
      replace d3 := Hide.mk d3
      replace d0' := Hide.mk d0'
      replace hkp := Hide.mk hkp
      replace hx := Hide.mk hx
      replace hd := Hide.mk hd
      replace hp := Hide.mk hp
      repeat' (first | apply goSeq | apply goReg | apply goSeqN | apply goSeqR | apply goSkip | apply goRet | apply goNil | apply goBlock | apply goExit | apply goBlkN | apply goBlkR | apply goBlkE | apply goSeqE | apply goLoopR | apply goLoopE | refine xOp ?_ | refine xOp0 ?_ | refine xYes ?_ | refine xNo ?_ | refine xNoU ?_ | refine xIfT ?_ | refine xIfF ?_ | refine xIf ?_ ?_ | refine xSplit ?_ ?_ | refine xIfQ ?_ ?_ | refine xSplitQ ?_ ?_ | refine xBlkX ?_ | intro _)
      have hlo : ∀ p ∈ b1 ++ b2, p.2 ≠ q0 := fun p hp => by have := (f1.out.2 p hp).1; omega
      refine goEndRt (a' := a1) (vs := [.agg [shv, dav]]) (bs := b1 ++ b2) (d := q3) (t := .agg [trC s, trS L]) hw ht.out hp.out.pre ?_ ?_ (by simp) (by simp [rs80, lr]) rfl hv.out
      · refine rep_agg2.2 ⟨shv, dav, b1, b2, rfl, ?_, ?_, rfl⟩
        · exact rep_down _ (c0 := 0) (okT_C 0 s) (Nat.zero_le _) (by omega) (Rep.keep (trC s) (fun p hp => hkp.out p.1 p.2 (hlo p (by simp [hp]))) hr.out)
        · exact rep_down _ (c0 := 0) (okT_S 0 _) (Nat.zero_le _) (by omega) (Rep.keep (trS L) (fun p hp => hkp.out p.1 p.2 (hlo p (by simp [hp]))) hd.out)
      · exact f1.out.wide (by omega) (Nat.le_refl _)
  · cases hv
/- Plain law of TileShares: the sums. -/
def prodI : List Int → Int
  | [] => 1
  | k :: l => k * prodI l
theorem mul_rng {a b A B : Int} (ha : 0 ≤ a ∧ a ≤ A) (hb : 0 ≤ b ∧ b ≤ B) : 0 ≤ a * b ∧ a * b ≤ A * B :=
  ⟨Int.mul_nonneg ha.1 hb.1, Int.mul_le_mul ha.2 hb.2 hb.1 (by omega)⟩
theorem prodW_3 {l : List Int} (h3 : l.length ≤ 3) (h : ∀ x ∈ l, 0 ≤ x ∧ x ≤ 7) : prodW 1 l = prodI l ∧ 0 ≤ prodI l ∧ prodI l ≤ 343 := by
  match l, h3, h with
  | [], _, _ => simp [prodW, prodI]
  | [a], _, h =>
    have ha := h a (by simp)
    simp only [prodW, prodI, Int.one_mul, Int.mul_one]
    rw [w_id (by omega)]
    omega
  | [a, b], _, h =>
    have ha := h a (by simp)
    have hb := h b (by simp)
    have hab := mul_rng ha hb
    simp only [prodW, prodI, Int.one_mul, Int.mul_one]
    rw [w_id (x := a) (by omega), w_id (by omega)]
    omega
  | [a, b, c], _, h =>
    have ha := h a (by simp)
    have hb := h b (by simp)
    have hc := h c (by simp)
    have hab := mul_rng ha hb
    have habc := mul_rng hab hc
    simp only [prodW, prodI, Int.one_mul, Int.mul_one]
    rw [w_id (x := a) (by omega), w_id (x := a * b) (by omega), w_id (by omega), ← Int.mul_assoc]
    omega
  | _ :: _ :: _ :: _ :: _, h3, _ => simp at h3
theorem shape_3 {s : List Int} (h3 : s.length ≤ 3) (h : ∀ x ∈ s, x ∈ lens) : shapeOK s = true := by
  have hr : ∀ x ∈ s, 0 ≤ x ∧ x ≤ 7 := fun x hx => lens_rng x (h x hx)
  have hp := prodW_3 h3 hr
  have key : ∀ (l : List Int) (n : Int), (∀ x ∈ l, 0 ≤ x ∧ x ≤ 7) → shapeGo n l = decide (prodW n l ≤ 4096) := by
    intro l
    induction l with
    | nil => intro n _; rfl
    | cons k l ih =>
      intro n hl
      have hk := hl k (by simp)
      simp only [shapeGo, prodW]
      rw [if_neg (by omega)]
      exact ih _ fun x hx => hl x (by simp [hx])
  unfold shapeOK
  rw [if_neg (by omega), key s 1 hr]
  simp only [decide_eq_true_eq]
  omega
theorem chk_at {m : List Int} (hm : m ∈ six) {d : Nat} (hd : (d : Int) < devs m) {n : Int} (hn : n ∈ lens) {k : Nat} (hk : k < m.length) :
    0 ≤ szOf m (meshAt m d) n k ∧ szOf m (meshAt m d) n k ≤ szOf m (meshAt m 0) n k ∧ szOf m (meshAt m 0) n k ≤ 7 := by
  have h1 := List.all_eq_true.1 chk_six m hm
  have h2 := List.all_eq_true.1 h1 d (by simp; omega)
  have h3 := List.all_eq_true.1 h2 n hn
  have h4 := List.all_eq_true.1 h3 k (by simpa using hk)
  simpa using h4
theorem sz_rng {m : List Int} (hm : m ∈ six) {d : Nat} (hd : (d : Int) < devs m) {n : Int} (hn : n ∈ lens) {k : Int} (hk : k < m.length) :
    0 ≤ szOf m (meshAt m d) n k ∧ szOf m (meshAt m d) n k ≤ szOf m (meshAt m 0) n k ∧ szOf m (meshAt m 0) n k ≤ 7 := by
  by_cases h0 : 0 ≤ k
  · obtain ⟨j, rfl⟩ : ∃ j : Nat, k = j := ⟨k.toNat, by omega⟩
    exact chk_at hm hd hn (by omega)
  · simp only [szOf, if_neg h0]
    have := lens_rng n hn
    omega
theorem szs_rng {m : List Int} (hm : m ∈ six) {d : Nat} (hd : (d : Int) < devs m) : ∀ (s p : List Int), (∀ x ∈ s, x ∈ lens) → (∀ k ∈ p, k < m.length) → ∀ x ∈ szs m (meshAt m d) s p, 0 ≤ x ∧ x ≤ 7 := by
  intro s
  induction s with
  | nil => intro p _ _ x hx; simp [szs] at hx
  | cons n s ih =>
    intro p hs hp x hx
    cases p with
    | nil => simp [szs] at hx
    | cons k p =>
      simp only [szs, List.mem_cons] at hx
      rcases hx with rfl | hx
      · have := sz_rng hm hd (hs n (by simp)) (hp k (by simp))
        omega
      · exact ih p (fun y hy => hs y (by simp [hy])) (fun y hy => hp y (by simp [hy])) x hx
theorem fin {X S c' c : Int} (hc : c' = c) (h : X = S * c) : X = S * c' := by rw [hc, h]
theorem spec_rng {p : List Int} {n : Int} (h : specGo n [] p = true) : ∀ k ∈ p, -1 ≤ k ∧ k < n := by
  intro k hk
  obtain ⟨i, hi, rfl⟩ := List.getElem_of_mem hk
  rw [← specGo_eq] at h
  have := rSpecGo_lt p [] h i hi
  simpa [nth, hi] using this
end Go.Proofs.Ytokadkakmhfdeaa.Pq
