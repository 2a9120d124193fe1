/- Walks: some of chapter 15's runs; SpecNumbers. -/
import Derived.Test.YtokadkakmhfdeaaPqWI
set_option linter.unusedVariables false
set_option linter.unusedSimpArgs false
namespace Go.Proofs.Ytokadkakmhfdeaa.Pq
open Go.RowKit

theorem ints_two {X : Hp} {b ver : Nat} {f : Bool} {a c : Int} (hb : b = X.bs.length) (hc : ver = X.c) : ints (X.new [.int .i64 a, .int .i64 c]) (.sl b ver 0 2 1 f) = some [a, c] := by
  subst hb; subst hc
  simp [ints, new_at, toInts, toInt]
def F26 (args : List AV) (H : Hp) : Option AV := match args with
  | [] => some (.bool true)
  | _ => none
set_option maxHeartbeats 2000000 in
theorem snd26 : Sound Try.prog 26 (FSem.pure F26).run := by
  refine sound_of hT (EOK_cons snd62 (EOK_cons snd63 (EOK_cons snd64 (EOK_cons snd65 (EOK_cons snd66 (EOK_cons snd68 (EOK_cons snd69 (EOK_nil _)))))))) mixed A26 Try.func26 hb26 (by kernel_rfl) (by kernel_rfl) (by kernel_rfl) (by kernel_rfl) sh26 0 (by kernel_rfl) rs26 hr26 ?_
  intro args H r H' hw h
  obtain ⟨rfl, hv⟩ := pureAt h
  clear h
  unfold F26 at hv
  split at hv
  · cases hv
    have c1 : copies [2, 4] [1] = 2 := by decide
    have c2 : specOK [2] [0, 0] 2 = false := by decide
    have c3 : firstL [2, 4] [-1] 7 = 0 := by decide
    have c4 : specOK [2, 4] [1, -1] 2 = true := by decide
    have c5 : partOf [2, 4] 1 = 4 := by decide
    have c6 : partOf [2, 4] (-1) = 1 := by decide
    have q1 : sameL [4, 1] [4, 1] = true := by decide
    have q2 : sameL [-1, -1] [-1, -1] = true := by decide
    have q3 : sameL [] [] = true := by decide
    have f64 : ∀ (a b : AV) (H : Hp), F64 [a, b] H = (ints H a).bind fun sz => (ints H b).bind fun sp => if sp.length < 1099511627776 then some (if specOK sz sp sp.length = true then mkF H (sp.map (partOf sz)) else (.nilS, H)) else none := fun _ _ _ => rfl
    have f68 : ∀ (H : Hp), F68 [.int .i64 2] H = some (mkF H [-1, -1]) := fun _ => rfl
    have m1 : ∀ (H : Hp) (l : List Int), mkF H l = (.sl H.bs.length H.c 0 l.length 1 true, H.new (l.map (.int .i64))) := fun _ _ => rfl
    have i0 : ∀ (H : Hp), ints H .nilS = some [] := fun _ => rfl
    have b1 := @xdo_bs22_1
    have b2 := @xdo_bs22_2
    have n1 := new_len
    have n2 := new_c
    have n3 := @ints_skip
    have n4 := @ints_one
    have n5 := @ints_two
    have n6 : ∀ x k : Nat, x < x + (k + 1) := by intros; omega
    have n7 : ∀ x : Nat, x < x + 2 := by intros; omega
    have n8 : ∀ x : Nat, x < x + 1 + 1 := by intros; omega
    refine ⟨rfl, go ?_⟩
    unfold c26
    simp only [argSl]
    repeat (first | apply goSeq | apply goReg | apply goSeqN | apply goNil | apply goRet | (apply goOp; (· (simp [*]; try exact rfl)); (· exact rfl)) | (apply goYes; (· (simp [*]; done)); (· (simp [*]; try exact rfl)); (· exact rfl)))
    exact goEnd hw (by repeat (first | exact Pre.refl _ | apply Pre.new)) (by simp) (by simp [rs26]; exact rfl) rfl rfl
  · cases hv

theorem xdo_bs26_7 {E : Env} {sh : Bool} {s : Sl} {H : Hp} (x1 x2 x3 x4 x5 x6 : Operand) {v1 v2 v3 v4 v5 v6 : AV} (h1 : ev s x1 = v1) (h2 : ev s x2 = v2) (h3 : ev s x3 = v3) (h4 : ev s x4 = v4) (h5 : ev s x5 = v5) (h6 : ev s x6 = v6)
    (g : [v1, v2, v3, v4, v5, v6].all (fun v => match v with | .sl .. => true | _ => false) = true) :
    xdo E T sh (.buildSlice 26 7 #[(0, .const (.slice none 0 0)), (1, x1), (2, x2), (3, x3), (4, x4), (5, x5), (6, x6)]) s H = some (.sl H.bs.length H.c 0 7 1 true, H.new [.nilS, v1, v2, v3, v4, v5, v6]) := by
  simp only [List.all_cons, List.all_nil, Bool.and_true, Bool.and_eq_true] at g
  obtain ⟨g1, g2, g3, g4, g5, g6⟩ := g
  cases v1 <;> first | cases g1 | skip
  cases v2 <;> first | cases g2 | skip
  cases v3 <;> first | cases g3 | skip
  cases v4 <;> first | cases g4 | skip
  cases v5 <;> first | cases g5 | skip
  cases v6 <;> first | cases g6 | skip
  simp [xdo, aop, D26, T22, rep, afill, setAll, AV.cells, AV.one, h1, h2, h3, h4, h5, h6]
def six4 : List (List Int) := [[2], [2, 4], [2, 2, 2], [3, 1], [9], [1]]
theorem goLits4 {E : Env} {s : Sl} {H : Hp} {k : Ct} {l : List Co}
    (h : ∀ (v1 v2 v3 v4 v5 v6 : AV) (HL : Hp), litH H six4 = ([v1, v2, v3, v4, v5, v6], HL) →
      YL E T false l ((14, .sl HL.bs.length HL.c 0 7 1 true) :: (13, v6) :: (12, v5) :: (11, v4) :: (10, v3) :: (9, v2) :: (8, v1) :: s) (HL.new [.nilS, v1, v2, v3, v4, v5, v6]) k) :
    YL E T false (⟨some 8, (Op.buildSlice 22 1 #[(0, (Operand.const (Value.int IntKind.i64 2)))]), none⟩ ::
    ⟨some 9, (Op.buildSlice 22 2 #[(0, (Operand.const (Value.int IntKind.i64 2))), (1, (Operand.const (Value.int IntKind.i64 4)))]), none⟩ ::
    ⟨some 10, (Op.buildSlice 22 3 #[(0, (Operand.const (Value.int IntKind.i64 2))), (1, (Operand.const (Value.int IntKind.i64 2))), (2, (Operand.const (Value.int IntKind.i64 2)))]), none⟩ ::
    ⟨some 11, (Op.buildSlice 22 2 #[(0, (Operand.const (Value.int IntKind.i64 3))), (1, (Operand.const (Value.int IntKind.i64 1)))]), none⟩ ::
    ⟨some 12, (Op.buildSlice 22 1 #[(0, (Operand.const (Value.int IntKind.i64 9)))]), none⟩ ::
    ⟨some 13, (Op.buildSlice 22 1 #[(0, (Operand.const (Value.int IntKind.i64 1)))]), none⟩ ::
    ⟨some 14, (Op.buildSlice 26 7 #[(0, (Operand.const (Value.slice none 0 0))), (1, (Operand.tmp 8)), (2, (Operand.tmp 9)), (3, (Operand.tmp 10)), (4, (Operand.tmp 11)), (5, (Operand.tmp 12)), (6, (Operand.tmp 13))]), none⟩ :: l) s H k := by
  refine goOp (xdo_bs22_1 2) rfl ?_
  refine goOp (xdo_bs22_2 2 4) rfl ?_
  refine goOp (xdo_bs22_3 2 2 2) rfl ?_
  refine goOp (xdo_bs22_2 3 1) rfl ?_
  refine goOp (xdo_bs22_1 9) rfl ?_
  refine goOp (xdo_bs22_1 1) rfl ?_
  refine goOp (xdo_bs26_7 _ _ _ _ _ _ rfl rfl rfl rfl rfl rfl rfl) rfl ?_
  exact h _ _ _ _ _ _ _ rfl
theorem xdo_bs22_v3 {E : Env} {sh : Bool} {s : Sl} {H : Hp} (x y : Operand) (a b c : Int) (hx : ev s x = .int .i64 a) (hy : ev s y = .int .i64 b) : xdo E T sh (.buildSlice 22 3 #[(0, x), (1, y), (2, .const (.int .i64 c))]) s H = some (.sl H.bs.length H.c 0 3 1 true, H.new ([a, b, c].map (.int .i64))) := by
  simp [xdo, aop, D22, T3, rep, afill, setAll, AV.cells, AV.one, hx, hy]
def F4 (args : List AV) (H : Hp) : Option AV := match args with
  | [] => some (.bool true)
  | _ => none
set_option maxHeartbeats 2000000 in
theorem snd4 : Sound Try.prog 4 (FSem.pure F4).run := by
  refine sound_of hT (EOK_cons snd25 (EOK_cons snd26 (EOK_nil _))) mixed A4 Try.func4 hb4 (by kernel_rfl) (by kernel_rfl) (by kernel_rfl) (by kernel_rfl) sh4 0 (by kernel_rfl) rs4 hr4 ?_
  intro args H r H' hw h
  obtain ⟨rfl, hv⟩ := pureAt h
  clear h
  unfold F4 at hv
  split at hv
  · cases hv
    refine ⟨rfl, go ?_⟩
    unfold c4
    simp only [argSl]
    refine goSeq (goReg (goOp rfl rfl (goNil (goSeqN ?_))))
    refine goSeq (goSeq (goReg ?_))
    refine goLits4 fun v1 v2 v3 v4 v5 v6 HL hL => ?_
    have hE1 : Ext H' HL := by have := litH_ext six4 hw; rwa [hL] at this
    have hat := fun k hk => litH_at six4 hw (by decide) k hk
    rw [hL] at hat
    have hmesh : ∀ k : Nat, k < 7 → ∃ u m, [AV.nilS, v1, v2, v3, v4, v5, v6][k]? = some u ∧ ints HL u = some m := by
      intro k hk
      cases k with
      | zero => exact ⟨.nilS, [], rfl, rfl⟩
      | succ k =>
        obtain ⟨u, m, h1, _, h3, _⟩ := hat k (by simp [six4]; omega)
        exact ⟨u, m, by simpa using h1, h3⟩
    have hE2 : Ext H' (HL.new [.nilS, v1, v2, v3, v4, v5, v6]) := hE1.new _
    have hk2 := new_at HL [.nilS, v1, v2, v3, v4, v5, v6]
    have hld : ∀ (G : Hp) (k : Nat), Ext (HL.new [.nilS, v1, v2, v3, v4, v5, v6]) G → k < 7 → ∃ u m, aload T 22 (.ptr HL.bs.length HL.c k) G = some u ∧ ints G u = some m := by
      intro G k hG hk
      obtain ⟨u, m, h1, h2⟩ := hmesh k hk
      refine ⟨u, m, ?_, ints_ext (Pre.trans (Pre.new (Pre.refl _) _) hG.pre) h2⟩
      simp only [aload, T22, Pre.at hG.pre hk2]
      exact h1
    have hln : alen T 26 (.sl HL.bs.length HL.c 0 7 1 true) = some (.int .i64 7) := by simp [alen, D26, alenS]
    have hix : ∀ k : Nat, k < 7 → aidx T 26 (.sl HL.bs.length HL.c 0 7 1 true) (.int .i64 k) = some (.ptr HL.bs.length HL.c k) := by
      intro k hk
      rw [aidx26]; simp only [aidxS]; rw [if_pos ⟨trivial, by omega, by omega⟩]; simp
    have hw2 := hE2.wf
    generalize HL.new [.nilS, v1, v2, v3, v4, v5, v6] = HM at *
    generalize HL.bs.length = bL at *
    generalize HL.c = cL at *
    clear hmesh hat hL hk2 hE1
    replace hld := Hide.mk hld
    replace hix := Hide.mk hix
    replace hE2 := Hide.mk hE2
    repeat' (first | apply goSeq | apply goReg | apply goSeqN | apply goSeqR | apply goSkip | apply goRet | apply goNil | apply goBlock | apply goExit | apply goBlkN | apply goBlkR | apply goBlkE | apply goSeqE | apply goLoopR | apply goLoopE | (apply goOp; (· (simp [*]; try exact rfl)); (· exact rfl)) | (apply goOp0; (· (simp [*]; try exact rfl)); (· exact rfl)) | (apply goYes; (· (simp [*]; done)); (· (simp [*]; try exact rfl)); (· exact rfl)) | (apply goNo; (· (simp [*]; done))) | (apply goNoU; (· (simp; exact rfl))) | (apply goIfT; (· (simp [*]; done))) | (apply goIfF; (· (simp [*]; done))) | (apply goIf; (· (simp; exact rfl)); (· with_reducible exact rfl)) | (apply goSplit; (· (simp; exact rfl)); (· with_reducible exact rfl)) | (apply goIfQ; (· (simp; exact rfl)); (· exact rfl)) | (apply goSplitQ; (· (simp; exact rfl)); (· exact rfl)) | (apply goBlkX; (· rfl)) | intro _)
    clear hln
    refine goLoop (fun m s G => Ext HM G ∧ ∃ i : Nat, m = 7 - i ∧ i ≤ 7 ∧ get s 14 = .sl bL cL 0 7 1 true ∧ get s 15 = .int .i64 7 ∧ get s 16 = .int .i64 i) 7 ?_ ?_
    · exact ⟨Ext.refl hw2, 0, rfl, by omega, rfl, rfl, rfl⟩
    rintro m1 s1 G1 ⟨he1, i, hm1, hi, g1, g2, g3⟩
    simp only [cut_cons, cut_nil, g1, g2, g3]
    clear g1 g2 g3
    by_cases hi7 : i < 7
    · have hi7' : (i : Int) < 7 := by omega
      obtain ⟨u, ms, hl1, hi1⟩ := hld.out G1 i he1 hi7
      have hx1 := hix.out i hi7
      have hw1 : w ((i : Int) + 1) = ((i + 1 : Nat) : Int) := w_id (by omega)
      replace hi1 := Hide.mk hi1
      replace he1 := Hide.mk he1
      repeat' (first | apply goSeq | apply goReg | apply goSeqN | apply goSeqR | apply goSkip | apply goRet | apply goNil | apply goBlock | apply goExit | apply goBlkN | apply goBlkR | apply goBlkE | apply goSeqE | apply goLoopR | apply goLoopE | (apply goOp; (· (simp [*]; try exact rfl)); (· exact rfl)) | (apply goOp0; (· (simp [*]; try exact rfl)); (· exact rfl)) | (apply goYes; (· (simp [*]; done)); (· (simp [*]; try exact rfl)); (· exact rfl)) | (apply goNo; (· (simp [*]; done))) | (apply goNoU; (· (simp; exact rfl))) | (apply goIfT; (· (simp [*]; done))) | (apply goIfF; (· (simp [*]; done))) | (apply goIf; (· (simp; exact rfl)); (· with_reducible exact rfl)) | (apply goSplit; (· (simp; exact rfl)); (· with_reducible exact rfl)) | (apply goIfQ; (· (simp; exact rfl)); (· exact rfl)) | (apply goSplitQ; (· (simp; exact rfl)); (· exact rfl)) | (apply goBlkX; (· rfl)) | intro _)
      clear hl1 hx1
      refine goLoop (fun m s G => Ext HM G ∧ ints G u = some ms ∧ ∃ a : Int, m = (4 - a).toNat ∧ -2 ≤ a ∧ a ≤ 4 ∧ get s 2 = u ∧ get s 3 = .int .i64 a ∧ get s 14 = .sl bL cL 0 7 1 true ∧ get s 15 = .int .i64 7 ∧ get s 16 = .int .i64 i) 6 ?_ ?_
      · exact ⟨he1.out, hi1.out, -2, rfl, by omega, by omega, rfl, rfl, rfl, rfl, rfl⟩
      clear hi1 he1
      rintro m2 s2 G2 ⟨he2, hi2, a, hm2, ha1, ha2, g1, g2, g3, g4, g5⟩
      simp only [cut_cons, cut_nil, g1, g2, g3, g4, g5]
      clear g1 g2 g3 g4 g5
      have hwa : w (a + 1) = a + 1 := w_id (by omega)
      replace hi2 := Hide.mk hi2
      replace he2 := Hide.mk he2
      repeat' (first | apply goSeq | apply goReg | apply goSeqN | apply goSeqR | apply goSkip | apply goRet | apply goNil | apply goBlock | apply goExit | apply goBlkN | apply goBlkR | apply goBlkE | apply goSeqE | apply goLoopR | apply goLoopE | (apply goOp; (· (simp [*]; try exact rfl)); (· exact rfl)) | (apply goOp0; (· (simp [*]; try exact rfl)); (· exact rfl)) | (apply goYes; (· (simp [*]; done)); (· (simp [*]; try exact rfl)); (· exact rfl)) | (apply goNo; (· (simp [*]; done))) | (apply goNoU; (· (simp; exact rfl))) | (apply goIfT; (· (simp [*]; done))) | (apply goIfF; (· (simp [*]; done))) | (apply goIf; (· (simp; exact rfl)); (· with_reducible exact rfl)) | (apply goSplit; (· (simp; exact rfl)); (· with_reducible exact rfl)) | (apply goIfQ; (· (simp; exact rfl)); (· exact rfl)) | (apply goSplitQ; (· (simp; exact rfl)); (· exact rfl)) | (apply goBlkX; (· rfl)) | intro _)
      · rename_i ha4
        refine goLoop (fun m s G => Ext HM G ∧ ints G u = some ms ∧ ∃ b : Int, m = (4 - b).toNat ∧ -2 ≤ b ∧ b ≤ 4 ∧ get s 2 = u ∧ get s 3 = .int .i64 a ∧ get s 4 = .int .i64 b ∧ get s 14 = .sl bL cL 0 7 1 true ∧ get s 15 = .int .i64 7 ∧ get s 16 = .int .i64 i) 6 ?_ ?_
        · exact ⟨he2.out, hi2.out, -2, rfl, by omega, by omega, rfl, rfl, rfl, rfl, rfl, rfl⟩
        clear hi2 he2
        rintro m3 s3 G3 ⟨he3, hi3, b, hm3, hb1, hb2, g1, g2, g3, g4, g5, g6⟩
        simp only [cut_cons, cut_nil, g1, g2, g3, g4, g5, g6]
        clear g1 g2 g3 g4 g5 g6
        have hwb : w (b + 1) = b + 1 := w_id (by omega)
        replace hi3 := Hide.mk hi3
        replace he3 := Hide.mk he3
        repeat' (first | apply goSeq | apply goReg | apply goSeqN | apply goSeqR | apply goSkip | apply goRet | apply goNil | apply goBlock | apply goExit | apply goBlkN | apply goBlkR | apply goBlkE | apply goSeqE | apply goLoopR | apply goLoopE | (apply goOp; (· (simp [*]; try exact rfl)); (· exact rfl)) | (apply goOp0; (· (simp [*]; try exact rfl)); (· exact rfl)) | (apply goYes; (· (simp [*]; done)); (· (simp [*]; try exact rfl)); (· exact rfl)) | (apply goNo; (· (simp [*]; done))) | (apply goNoU; (· (simp; exact rfl))) | (apply goIfT; (· (simp [*]; done))) | (apply goIfF; (· (simp [*]; done))) | (apply goIf; (· (simp; exact rfl)); (· with_reducible exact rfl)) | (apply goSplit; (· (simp; exact rfl)); (· with_reducible exact rfl)) | (apply goIfQ; (· (simp; exact rfl)); (· exact rfl)) | (apply goSplitQ; (· (simp; exact rfl)); (· exact rfl)) | (apply goBlkX; (· rfl)) | intro _)
        · rename_i hb4
          refine goLoop (fun m s G => Ext HM G ∧ ints G u = some ms ∧ ∃ n : Nat, m = 4 - n ∧ n ≤ 4 ∧ get s 2 = u ∧ get s 3 = .int .i64 a ∧ get s 4 = .int .i64 b ∧ get s 5 = .int .i64 n ∧ get s 14 = .sl bL cL 0 7 1 true ∧ get s 15 = .int .i64 7 ∧ get s 16 = .int .i64 i) 4 ?_ ?_
          · exact ⟨he3.out, hi3.out, 0, rfl, by omega, rfl, rfl, rfl, rfl, rfl, rfl, rfl⟩
          clear hi3 he3
          rintro m4 s4 G4 ⟨he4, hi4, n, hm4, hn4, g1, g2, g3, g4, g5, g6, g7⟩
          simp only [cut_cons, cut_nil, g1, g2, g3, g4, g5, g6, g7]
          clear g1 g2 g3 g4 g5 g6 g7
          have hwn : w ((n : Int) + 1) = ((n + 1 : Nat) : Int) := w_id (by omega)
          by_cases hn : n < 4
          · have hn' : (n : Int) < 4 := by omega
            have hx22 := @xdo_slice22
            have hii : ints (G4.new ([a, b, -1].map (.int .i64))) (.sl G4.bs.length G4.c 0 3 1 true) = some [a, b, -1] := ints_of_ownF (mkF_own G4 [a, b, -1]) (by simp)
            have hsl := aslice_pre hii .i64 n
            rw [if_pos ⟨by omega, by simp; omega⟩] at hsl
            have hpi := ints_pre hii n (by omega) (by simp; omega)
            have he5 : Ext HM (G4.new ([a, b, -1].map (.int .i64))) := he4.new _
            have hi5 : ints (G4.new ([a, b, -1].map (.int .i64))) u = some ms := ints_ext (Pre.new (Pre.refl _) _) hi4
            have hpl : ([a, b, -1].take (n : Int).toNat).length < 1099511627776 := by simp; omega
            generalize [a, b, -1].take (n : Int).toNat = sl at *
            generalize hsv : preS (.sl G4.bs.length G4.c 0 3 1 true) (n : Int) = sv at *
            replace hi4 := Hide.mk hi4
            replace he4 := Hide.mk he4
            replace hii := Hide.mk hii
            replace he5 := Hide.mk he5
            replace hi5 := Hide.mk hi5
            replace hpi := Hide.mk hpi
            clear hsv
            repeat' (first | apply goSeq | apply goReg | apply goSeqN | apply goSeqR | apply goSkip | apply goRet | apply goNil | apply goBlock | apply goExit | apply goBlkN | apply goBlkR | apply goBlkE | apply goSeqE | apply goLoopR | apply goLoopE | (apply goOp; (· (simp [*]; try exact rfl)); (· exact rfl)) | (apply goOp0; (· (simp [*]; try exact rfl)); (· exact rfl)) | (apply goYes; (· (simp [*]; done)); (· (simp [*]; try exact rfl)); (· exact rfl)) | (apply goNo; (· (simp [*]; done))) | (apply goNoU; (· (simp; exact rfl))) | (apply goIfT; (· (simp [*]; done))) | (apply goIfF; (· (simp [*]; done))) | (apply goIf; (· (simp; exact rfl)); (· with_reducible exact rfl)) | (apply goSplit; (· (simp; exact rfl)); (· with_reducible exact rfl)) | (apply goIfQ; (· (simp; exact rfl)); (· exact rfl)) | (apply goSplitQ; (· (simp; exact rfl)); (· exact rfl)) | (apply goBlkX; (· rfl)) | intro _)
            refine goOp (xdo_bs22_v3 _ _ a b (-1) rfl rfl) rfl ?_
            generalize G4.new ([a, b, -1].map (.int .i64)) = G5 at *
            generalize AV.sl G4.bs.length G4.c 0 3 1 true = s0 at *
            repeat' (first | apply goSeq | apply goReg | apply goSeqN | apply goSeqR | apply goSkip | apply goRet | apply goNil | apply goBlock | apply goExit | apply goBlkN | apply goBlkR | apply goBlkE | apply goSeqE | apply goLoopR | apply goLoopE | (apply goOp; (· (simp [*]; try exact rfl)); (· exact rfl)) | (apply goOp0; (· (simp [*]; try exact rfl)); (· exact rfl)) | (apply goYes; (· (simp [*]; done)); (· (simp [*]; try exact rfl)); (· exact rfl)) | (apply goNo; (· (simp [*]; done))) | (apply goNoU; (· (simp; exact rfl))) | (apply goIfT; (· (simp [*]; done))) | (apply goIfF; (· (simp [*]; done))) | (apply goIf; (· (simp; exact rfl)); (· with_reducible exact rfl)) | (apply goSplit; (· (simp; exact rfl)); (· with_reducible exact rfl)) | (apply goIfQ; (· (simp; exact rfl)); (· exact rfl)) | (apply goSplitQ; (· (simp; exact rfl)); (· exact rfl)) | (apply goBlkX; (· rfl)) | intro _)
            clear hsl hx22 hn'
            have hi5 := hi5.out
            have hpi := hpi.out
            refine goLoop (fun m s G => G = G5 ∧ ∃ d : Int, m = (9 - d).toNat ∧ -1 ≤ d ∧ d ≤ 9 ∧ get s 2 = u ∧ get s 3 = .int .i64 a ∧ get s 4 = .int .i64 b ∧ get s 5 = .int .i64 n ∧ get s 6 = sv ∧ get s 7 = .int .i64 d ∧ get s 14 = .sl bL cL 0 7 1 true ∧ get s 15 = .int .i64 7 ∧ get s 16 = .int .i64 i) 10 ?_ ?_
            · exact ⟨rfl, -1, rfl, by omega, by omega, rfl, rfl, rfl, rfl, rfl, rfl, rfl, rfl, rfl⟩
            rintro m5 s5 G6 ⟨rfl, d, hm5, hd1, hd2, g1, g2, g3, g4, g5, g6, g7, g8, g9⟩
            simp only [cut_cons, cut_nil, g1, g2, g3, g4, g5, g6, g7, g8, g9]
            clear g1 g2 g3 g4 g5 g6 g7 g8 g9
            have hwd : w (d + 1) = d + 1 := w_id (by omega)
            have e25 : ∀ r e : Int, F25 [u, sv, .int .i64 r, .int .i64 e] G6 = some (.bool true) := by
              intro r e
              show (ints _ _).bind _ = _
              rw [hi5, Option.bind_some, hpi, Option.bind_some, if_pos hpl]
            repeat' (first | apply goSeq | apply goReg | apply goSeqN | apply goSeqR | apply goSkip | apply goRet | apply goNil | apply goBlock | apply goExit | apply goBlkN | apply goBlkR | apply goBlkE | apply goSeqE | apply goLoopR | apply goLoopE | (apply goOp; (· (simp [*]; try exact rfl)); (· exact rfl)) | (apply goOp0; (· (simp [*]; try exact rfl)); (· exact rfl)) | (apply goYes; (· (simp [*]; done)); (· (simp [*]; try exact rfl)); (· exact rfl)) | (apply goNo; (· (simp [*]; done))) | (apply goNoU; (· (simp; exact rfl))) | (apply goIfT; (· (simp [*]; done))) | (apply goIfF; (· (simp [*]; done))) | (apply goIf; (· (simp; exact rfl)); (· with_reducible exact rfl)) | (apply goSplit; (· (simp; exact rfl)); (· with_reducible exact rfl)) | (apply goIfQ; (· (simp; exact rfl)); (· exact rfl)) | (apply goSplitQ; (· (simp; exact rfl)); (· exact rfl)) | (apply goBlkX; (· rfl)) | intro _)
            · rename_i hd9
              exact goLoopN (9 - (d + 1)).toNat (by omega) ⟨rfl, d + 1, rfl, by omega, by omega, rfl, rfl, rfl, rfl, rfl, rfl, rfl, rfl, rfl⟩
            · rename_i hd9
              exact goLoopN (4 - (n + 1)) (by omega) ⟨he5.out, hi5, n + 1, rfl, by omega, rfl, rfl, rfl, rfl, rfl, rfl, rfl⟩
          · have hn' : ¬ (n : Int) < 4 := by omega
            replace hi4 := Hide.mk hi4
            replace he4 := Hide.mk he4
            repeat' (first | apply goSeq | apply goReg | apply goSeqN | apply goSeqR | apply goSkip | apply goRet | apply goNil | apply goBlock | apply goExit | apply goBlkN | apply goBlkR | apply goBlkE | apply goSeqE | apply goLoopR | apply goLoopE | (apply goOp; (· (simp [*]; try exact rfl)); (· exact rfl)) | (apply goOp0; (· (simp [*]; try exact rfl)); (· exact rfl)) | (apply goYes; (· (simp [*]; done)); (· (simp [*]; try exact rfl)); (· exact rfl)) | (apply goNo; (· (simp [*]; done))) | (apply goNoU; (· (simp; exact rfl))) | (apply goIfT; (· (simp [*]; done))) | (apply goIfF; (· (simp [*]; done))) | (apply goIf; (· (simp; exact rfl)); (· with_reducible exact rfl)) | (apply goSplit; (· (simp; exact rfl)); (· with_reducible exact rfl)) | (apply goIfQ; (· (simp; exact rfl)); (· exact rfl)) | (apply goSplitQ; (· (simp; exact rfl)); (· exact rfl)) | (apply goBlkX; (· rfl)) | intro _)
            exact goLoopN (4 - (b + 1)).toNat (by omega) ⟨he4.out, hi4.out, b + 1, rfl, by omega, by omega, rfl, rfl, rfl, rfl, rfl, rfl⟩
        · rename_i hb4
          exact goLoopN (4 - (a + 1)).toNat (by omega) ⟨he3.out, hi3.out, a + 1, rfl, by omega, by omega, rfl, rfl, rfl, rfl, rfl⟩
      · rename_i ha4
        exact goLoopN (7 - (i + 1)) (by omega) ⟨he2.out, i + 1, rfl, by omega, rfl, rfl, rfl⟩
    · have hi7' : ¬ (i : Int) < 7 := by omega
      have f26 : ∀ G, F26 [] G = some (.bool true) := fun _ => rfl
      replace he1 := Hide.mk he1
      repeat' (first | apply goSeq | apply goReg | apply goSeqN | apply goSeqR | apply goSkip | apply goRet | apply goNil | apply goBlock | apply goExit | apply goBlkN | apply goBlkR | apply goBlkE | apply goSeqE | apply goLoopR | apply goLoopE | (apply goOp; (· (simp [*]; try exact rfl)); (· exact rfl)) | (apply goOp0; (· (simp [*]; try exact rfl)); (· exact rfl)) | (apply goYes; (· (simp [*]; done)); (· (simp [*]; try exact rfl)); (· exact rfl)) | (apply goNo; (· (simp [*]; done))) | (apply goNoU; (· (simp; exact rfl))) | (apply goIfT; (· (simp [*]; done))) | (apply goIfF; (· (simp [*]; done))) | (apply goIf; (· (simp; exact rfl)); (· with_reducible exact rfl)) | (apply goSplit; (· (simp; exact rfl)); (· with_reducible exact rfl)) | (apply goIfQ; (· (simp; exact rfl)); (· exact rfl)) | (apply goSplitQ; (· (simp; exact rfl)); (· exact rfl)) | (apply goBlkX; (· rfl)) | intro _)
      exact goEnd hw (hE2.out.pre.trans he1.out.pre) (by simp) (by simp [rs4]; exact rfl) rfl rfl
  · cases hv
end Go.Proofs.Ytokadkakmhfdeaa.Pq
