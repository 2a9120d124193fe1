/- Walks: the document's least device that has the same part; spec.Whole. -/
import Derived.Test.YtokadkakmhfdeaaPqWF
import Derived.Test.YtokadkakmhfdeaaPqWC
set_option linter.unusedVariables false
set_option linter.unusedSimpArgs false
namespace Go.Proofs.Ytokadkakmhfdeaa.Pq
open Go.RowKit

theorem anyEq_app (x y : Int) (l : List Int) : anyEq x (l ++ [y]) = (anyEq x l || decide (y = x)) := by
  induction l with
  | nil => simp [anyEq]
  | cons a l ih =>
    simp only [List.cons_append, anyEq]
    by_cases h : a = x
    · simp [h]
    · simp [h, ih]
theorem anyEq_contains (l : List Int) (x : Int) : anyEq x l = contains l x := by
  rw [Bool.eq_iff_iff, anyEq_iff, contains_iff]
def F67 (args : List AV) (H : Hp) : Option AV := match args with
  | [a, b, .int .i64 d] => (ints H a).bind fun sz => (ints H b).map fun sp => .int .i64 (firstL sz sp d)
  | _ => none
set_option maxHeartbeats 2000000 in
theorem snd67 : Sound Try.prog 67 (FSem.pure F67).run := by
  refine sound_of hT (EOK_cons snd20 (EOK_cons snd58 (EOK_cons snd98 (EOK_cons snd127 (EOK_nil _))))) mixed A67 Try.func67 hb67 (by kernel_rfl) (by kernel_rfl) (by kernel_rfl) (by kernel_rfl) sh67 3 (by kernel_rfl) rs67 hr67 ?_
  intro args H r H' hw h
  obtain ⟨rfl, hv⟩ := pureAt h
  clear h
  unfold F67 at hv
  split at hv
  · rename_i a v d
    obtain ⟨sz, hsz, hv⟩ := Option.bind_eq_some_iff.1 hv
    obtain ⟨l, hl, hv⟩ := Option.map_eq_some_iff.1 hv
    cases hv
    have hlen := alenS_ints hl
    have hll := ints_len hl
    simp only [← alen22] at hlen
    have hrd := rDevs_eq sz
    have hrs := rSpecOK_eq sz l l.length
    have hro := rOfL_eq sz
    refine ⟨rfl, go ?_⟩
    unfold c67
    simp only [argSl]
    by_cases hd0 : d < 0
    · repeat' (first | apply goSeq | apply goReg | apply goSeqN | apply goSeqR | apply goSkip | apply goRet | apply goNil | apply goBlock | apply goExit | apply goBlkN | apply goBlkR | apply goBlkE | apply goSeqE | apply goLoopR | apply goLoopE | (apply goOp; (· (simp [*]; try exact rfl)); (· exact rfl)) | (apply goOp0; (· (simp [*]; try exact rfl)); (· exact rfl)) | (apply goYes; (· (simp [*]; done)); (· (simp [*]; try exact rfl)); (· exact rfl)) | (apply goNo; (· (simp [*]; done))) | (apply goNoU; (· (simp; exact rfl))) | (apply goIfT; (· (simp [*]; done))) | (apply goIfF; (· (simp [*]; done))) | (apply goIf; (· (simp; exact rfl)); (· with_reducible exact rfl)) | (apply goSplit; (· (simp; exact rfl)); (· with_reducible exact rfl)) | (apply goIfQ; (· (simp; exact rfl)); (· exact rfl)) | (apply goSplitQ; (· (simp; exact rfl)); (· exact rfl)) | (apply goBlkX; (· rfl)) | intro _)
      refine goEnd hw (Pre.refl _) (by simp) (by simp [rs67]; exact rfl) rfl ?_
      simp [firstL, hd0]
    by_cases hd1 : devs sz ≤ d
    · repeat' (first | apply goSeq | apply goReg | apply goSeqN | apply goSeqR | apply goSkip | apply goRet | apply goNil | apply goBlock | apply goExit | apply goBlkN | apply goBlkR | apply goBlkE | apply goSeqE | apply goLoopR | apply goLoopE | (apply goOp; (· (simp [*]; try exact rfl)); (· exact rfl)) | (apply goOp0; (· (simp [*]; try exact rfl)); (· exact rfl)) | (apply goYes; (· (simp [*]; done)); (· (simp [*]; try exact rfl)); (· exact rfl)) | (apply goNo; (· (simp [*]; done))) | (apply goNoU; (· (simp; exact rfl))) | (apply goIfT; (· (simp [*]; done))) | (apply goIfF; (· (simp [*]; done))) | (apply goIf; (· (simp; exact rfl)); (· with_reducible exact rfl)) | (apply goSplit; (· (simp; exact rfl)); (· with_reducible exact rfl)) | (apply goIfQ; (· (simp; exact rfl)); (· exact rfl)) | (apply goSplitQ; (· (simp; exact rfl)); (· exact rfl)) | (apply goBlkX; (· rfl)) | intro _)
      refine goEnd hw (Pre.refl _) (by simp) (by simp [rs67]; exact rfl) rfl ?_
      simp [firstL, hd1]
    rcases hsp : specOK sz l l.length with _ | _
    · rw [hsp] at hrs
      repeat' (first | apply goSeq | apply goReg | apply goSeqN | apply goSeqR | apply goSkip | apply goRet | apply goNil | apply goBlock | apply goExit | apply goBlkN | apply goBlkR | apply goBlkE | apply goSeqE | apply goLoopR | apply goLoopE | (apply goOp; (· (simp [*]; try exact rfl)); (· exact rfl)) | (apply goOp0; (· (simp [*]; try exact rfl)); (· exact rfl)) | (apply goYes; (· (simp [*]; done)); (· (simp [*]; try exact rfl)); (· exact rfl)) | (apply goNo; (· (simp [*]; done))) | (apply goNoU; (· (simp; exact rfl))) | (apply goIfT; (· (simp [*]; done))) | (apply goIfF; (· (simp [*]; done))) | (apply goIf; (· (simp; exact rfl)); (· with_reducible exact rfl)) | (apply goSplit; (· (simp; exact rfl)); (· with_reducible exact rfl)) | (apply goIfQ; (· (simp; exact rfl)); (· exact rfl)) | (apply goSplitQ; (· (simp; exact rfl)); (· exact rfl)) | (apply goBlkX; (· rfl)) | intro _)
      refine goEnd hw (Pre.refl _) (by simp) (by simp [rs67]; exact rfl) rfl ?_
      simp [firstL, hsp]
    rw [hsp] at hrs
    have hres : firstL sz l d = ofL sz (maskL l 0 (meshAt sz d)) := by simp [firstL, hsp, hd0, hd1]
    rw [hres]
    have h3 := (meshOK_pos (specOK_lt hsp).2.1).1
    have hml := meshAt_len sz d
    have e98 : F98 [a, .int .i64 d] H' = some (mkF H' (meshAt sz d)) := by
      simp only [F98, hsz, Option.map_some]
      rw [if_neg (by omega)]
    generalize meshAt sz d = M at *
    have hMe := mkF_ext hw M
    have hMo := mkF_own H' M
    have hMl : alen T 22 (mkF H' M).1 = some (.int .i64 M.length) := by rw [alen22]; rfl
    clear hres
    generalize hr1 : mkF H' M = r1 at *
    obtain ⟨u0, H1⟩ := r1
    simp only at hMe hMo hMl
    replace hMo := Hide.mk hMo
    replace hml := Hide.mk hml
    replace hll := Hide.mk hll
    repeat' (first | apply goSeq | apply goReg | apply goSeqN | apply goSeqR | apply goSkip | apply goRet | apply goNil | apply goBlock | apply goExit | apply goBlkN | apply goBlkR | apply goBlkE | apply goSeqE | apply goLoopR | apply goLoopE | (apply goOp; (· (simp [*]; try exact rfl)); (· exact rfl)) | (apply goOp0; (· (simp [*]; try exact rfl)); (· exact rfl)) | (apply goYes; (· (simp [*]; done)); (· (simp [*]; try exact rfl)); (· exact rfl)) | (apply goNo; (· (simp [*]; done))) | (apply goNoU; (· (simp; exact rfl))) | (apply goIfT; (· (simp [*]; done))) | (apply goIfF; (· (simp [*]; done))) | (apply goIf; (· (simp; exact rfl)); (· with_reducible exact rfl)) | (apply goSplit; (· (simp; exact rfl)); (· with_reducible exact rfl)) | (apply goIfQ; (· (simp; exact rfl)); (· exact rfl)) | (apply goSplitQ; (· (simp; exact rfl)); (· exact rfl)) | (apply goBlkX; (· rfl)) | intro _)
    refine goLoop (fun m s1 H2 => Ext H' H2 ∧ ∃ (i : Nat) (out : List Int), m = M.length - i ∧ i ≤ M.length ∧ get s1 0 = a ∧ get s1 1 = v ∧ get s1 7 = u0 ∧ get s1 31 = .int .i64 M.length ∧ get s1 32 = .int .i64 i ∧ OwnF H' H2 u0 out ∧ out.length = M.length ∧ out.take i ++ maskL l i (out.drop i) = maskL l 0 M) M.length ?_ ?_
    · exact ⟨hMe, 0, M, rfl, Nat.zero_le _, rfl, rfl, rfl, rfl, rfl, hMo.out, rfl, by simp⟩
    · clear e98 hMe hMo hMl hr1 hrs hrd
      rintro m s1 H2 ⟨he, i, out, hmm, hi, g1, g2, g3, g4, g5, ho, hol, hgo⟩
      simp only [cut_cons, cut_nil, g1, g2, g3, g4, g5]
      clear g1 g2 g3 g4 g5
      have hi0 : (0 : Int) ≤ i := Int.natCast_nonneg i
      have hw1 : w ((i : Int) + 1) = ((i + 1 : Nat) : Int) := w_id (by have := hml.out; omega)
      have hiu := ints_of_ownF ho (by have := hml.out; omega)
      have hixu := aidxS_ints hiu .i64
      simp only [← aidx22, hol] at hixu
      have hsz2 := ints_ext he.pre hsz
      have hl2 := ints_ext he.pre hl
      have hixl := aidxS_ints hl2 .i64
      have hldl := aload_nth T3 rfl hl2
      simp only [← aidx22] at hixl
      have hd := fun h => drop_nth out i h
      have ht := fun h => take_nth out i h
      clear hsz hl hl2
      replace hd := Hide.mk hd
      replace ht := Hide.mk ht
      replace ho := Hide.mk ho
      replace hgo := Hide.mk hgo
      replace hol := Hide.mk hol
      repeat' (first | apply goSeq | apply goReg | apply goSeqN | apply goSeqR | apply goSkip | apply goRet | apply goNil | apply goBlock | apply goExit | apply goBlkN | apply goBlkR | apply goBlkE | apply goSeqE | apply goLoopR | apply goLoopE | (apply goOp; (· (simp [*]; try exact rfl)); (· exact rfl)) | (apply goOp0; (· (simp [*]; try exact rfl)); (· exact rfl)) | (apply goYes; (· (simp [*]; done)); (· (simp [*]; try exact rfl)); (· exact rfl)) | (apply goNo; (· (simp [*]; done))) | (apply goNoU; (· (simp; exact rfl))) | (apply goIfT; (· (simp [*]; done))) | (apply goIfF; (· (simp [*]; done))) | (apply goIf; (· (simp; exact rfl)); (· with_reducible exact rfl)) | (apply goSplit; (· (simp; exact rfl)); (· with_reducible exact rfl)) | (apply goIfQ; (· (simp; exact rfl)); (· exact rfl)) | (apply goSplitQ; (· (simp; exact rfl)); (· exact rfl)) | (apply goBlkX; (· rfl)) | intro _)
      · rename_i hil
        refine goLoop (fun m2 s2 H3 => H3 = H2 ∧ ∃ (j : Nat), m2 = l.length - j ∧ j ≤ l.length ∧ get s2 0 = a ∧ get s2 1 = v ∧ get s2 7 = u0 ∧ get s2 8 = .int .i64 i ∧ get s2 9 = .bool (anyEq i (l.take j)) ∧ get s2 31 = .int .i64 M.length ∧ get s2 32 = .int .i64 i ∧ get s2 36 = .int .i64 l.length ∧ get s2 37 = .int .i64 j) l.length ?_ ?_
        · exact ⟨rfl, 0, rfl, Nat.zero_le _, rfl, rfl, rfl, rfl, rfl, rfl, rfl, rfl, rfl⟩
        · rintro m2 s2 H3 ⟨rfl, j, hmj, hj, g1, g2, g3, g4, g5, g6, g7, g8, g9⟩
          simp only [cut_cons, cut_nil, g1, g2, g3, g4, g5, g6, g7, g8, g9]
          clear g1 g2 g3 g4 g5 g6 g7 g8 g9
          have hj0 : (0 : Int) ≤ j := Int.natCast_nonneg j
          have hw2 : w ((j : Int) + 1) = ((j + 1 : Nat) : Int) := w_id (by have := hll.out; omega)
          have ht2 := fun h => take_nth l j h
          replace ht2 := Hide.mk ht2
          by_cases hjl : j < l.length
          · rcases hq : anyEq i (l.take j) with _ | _
            · have hq' := Hide.mk hq
              repeat' (first | apply goSeq | apply goReg | apply goSeqN | apply goSeqR | apply goSkip | apply goRet | apply goNil | apply goBlock | apply goExit | apply goBlkN | apply goBlkR | apply goBlkE | apply goSeqE | apply goLoopR | apply goLoopE | (apply goOp; (· (simp [*]; try exact rfl)); (· exact rfl)) | (apply goOp0; (· (simp [*]; try exact rfl)); (· exact rfl)) | (apply goYes; (· (simp [*]; done)); (· (simp [*]; try exact rfl)); (· exact rfl)) | (apply goNo; (· (simp [*]; done))) | (apply goNoU; (· (simp; exact rfl))) | (apply goIfT; (· (simp [*]; done))) | (apply goIfF; (· (simp [*]; done))) | (apply goIf; (· (simp; exact rfl)); (· with_reducible exact rfl)) | (apply goSplit; (· (simp; exact rfl)); (· with_reducible exact rfl)) | (apply goIfQ; (· (simp; exact rfl)); (· exact rfl)) | (apply goSplitQ; (· (simp; exact rfl)); (· exact rfl)) | (apply goBlkX; (· rfl)) | intro _)
              refine goLoopN (l.length - (j + 1)) (by omega) ⟨rfl, j + 1, rfl, by omega, rfl, rfl, rfl, rfl, ?_, rfl, rfl, rfl, rfl⟩
              rw [ht2.out hjl, anyEq_app, hq'.out]
              simp
            · have hq' := Hide.mk hq
              repeat' (first | apply goSeq | apply goReg | apply goSeqN | apply goSeqR | apply goSkip | apply goRet | apply goNil | apply goBlock | apply goExit | apply goBlkN | apply goBlkR | apply goBlkE | apply goSeqE | apply goLoopR | apply goLoopE | (apply goOp; (· (simp [*]; try exact rfl)); (· exact rfl)) | (apply goOp0; (· (simp [*]; try exact rfl)); (· exact rfl)) | (apply goYes; (· (simp [*]; done)); (· (simp [*]; try exact rfl)); (· exact rfl)) | (apply goNo; (· (simp [*]; done))) | (apply goNoU; (· (simp; exact rfl))) | (apply goIfT; (· (simp [*]; done))) | (apply goIfF; (· (simp [*]; done))) | (apply goIf; (· (simp; exact rfl)); (· with_reducible exact rfl)) | (apply goSplit; (· (simp; exact rfl)); (· with_reducible exact rfl)) | (apply goIfQ; (· (simp; exact rfl)); (· exact rfl)) | (apply goSplitQ; (· (simp; exact rfl)); (· exact rfl)) | (apply goBlkX; (· rfl)) | intro _)
              refine goLoopN (l.length - (j + 1)) (by omega) ⟨rfl, j + 1, rfl, by omega, rfl, rfl, rfl, rfl, ?_, rfl, rfl, rfl, rfl⟩
              rw [ht2.out hjl, anyEq_app, hq'.out]
              simp
          · have hl' : l.take j = l := List.take_of_length_le (by omega)
            rw [hl']
            have hac := anyEq_contains l i
            rw [hac]
            clear hl' ht2 hac
            rcases hc : contains l i with _ | _
            · have hc' := Hide.mk hc
              repeat' (first | apply goSeq | apply goReg | apply goSeqN | apply goSeqR | apply goSkip | apply goRet | apply goNil | apply goBlock | apply goExit | apply goBlkN | apply goBlkR | apply goBlkE | apply goSeqE | apply goLoopR | apply goLoopE | (apply goOp; (· (simp [*]; try exact rfl)); (· exact rfl)) | (apply goOp0; (· (simp [*]; try exact rfl)); (· exact rfl)) | (apply goYes; (· (simp [*]; done)); (· (simp [*]; try exact rfl)); (· exact rfl)) | (apply goNo; (· (simp [*]; done))) | (apply goNoU; (· (simp; exact rfl))) | (apply goIfT; (· (simp [*]; done))) | (apply goIfF; (· (simp [*]; done))) | (apply goIf; (· (simp; exact rfl)); (· with_reducible exact rfl)) | (apply goSplit; (· (simp; exact rfl)); (· with_reducible exact rfl)) | (apply goIfQ; (· (simp; exact rfl)); (· exact rfl)) | (apply goSplitQ; (· (simp; exact rfl)); (· exact rfl)) | (apply goBlkX; (· rfl)) | intro _)
              have hol := hol.out
              obtain ⟨H4, e, ho3, he3⟩ := store_own hw he ho.out i (by omega) 0
              refine goOp0 (v := .bad) (H' := H4) rfl (by simp [e]) ?_
              clear e
              replace ho3 := Hide.mk ho3
              have hol' := Hide.mk hol
              clear hol
              repeat' (first | apply goSeq | apply goReg | apply goSeqN | apply goSeqR | apply goSkip | apply goRet | apply goNil | apply goBlock | apply goExit | apply goBlkN | apply goBlkR | apply goBlkE | apply goSeqE | apply goLoopR | apply goLoopE | (apply goOp; (· (simp [*]; try exact rfl)); (· exact rfl)) | (apply goOp0; (· (simp [*]; try exact rfl)); (· exact rfl)) | (apply goYes; (· (simp [*]; done)); (· (simp [*]; try exact rfl)); (· exact rfl)) | (apply goNo; (· (simp [*]; done))) | (apply goNoU; (· (simp; exact rfl))) | (apply goIfT; (· (simp [*]; done))) | (apply goIfF; (· (simp [*]; done))) | (apply goIf; (· (simp; exact rfl)); (· with_reducible exact rfl)) | (apply goSplit; (· (simp; exact rfl)); (· with_reducible exact rfl)) | (apply goIfQ; (· (simp; exact rfl)); (· exact rfl)) | (apply goSplitQ; (· (simp; exact rfl)); (· exact rfl)) | (apply goBlkX; (· rfl)) | intro _)
              have hol := hol'.out
              refine goLoopN (M.length - (i + 1)) (by omega) ⟨he3, i + 1, out.set i 0, rfl, by omega, rfl, rfl, rfl, rfl, rfl, ho3.out, by simp [hol], ?_⟩
              rw [take_set1 out i 0 (by omega), ← hgo.out, hd.out (by omega)]
              simp [maskL, hc'.out, List.drop_set]
            · have hc' := Hide.mk hc
              repeat' (first | apply goSeq | apply goReg | apply goSeqN | apply goSeqR | apply goSkip | apply goRet | apply goNil | apply goBlock | apply goExit | apply goBlkN | apply goBlkR | apply goBlkE | apply goSeqE | apply goLoopR | apply goLoopE | (apply goOp; (· (simp [*]; try exact rfl)); (· exact rfl)) | (apply goOp0; (· (simp [*]; try exact rfl)); (· exact rfl)) | (apply goYes; (· (simp [*]; done)); (· (simp [*]; try exact rfl)); (· exact rfl)) | (apply goNo; (· (simp [*]; done))) | (apply goNoU; (· (simp; exact rfl))) | (apply goIfT; (· (simp [*]; done))) | (apply goIfF; (· (simp [*]; done))) | (apply goIf; (· (simp; exact rfl)); (· with_reducible exact rfl)) | (apply goSplit; (· (simp; exact rfl)); (· with_reducible exact rfl)) | (apply goIfQ; (· (simp; exact rfl)); (· exact rfl)) | (apply goSplitQ; (· (simp; exact rfl)); (· exact rfl)) | (apply goBlkX; (· rfl)) | intro _)
              have hol := hol.out
              refine goLoopN (M.length - (i + 1)) (by omega) ⟨he, i + 1, out, rfl, by omega, rfl, rfl, rfl, rfl, rfl, ho.out, hol, ?_⟩
              rw [← hgo.out, ht.out (by omega), hd.out (by omega)]
              simp [maskL, hc'.out]
      · rename_i hil
        refine goEnd hw he.pre (by simp) (by simp [rs67]; exact rfl) rfl ?_
        have h1 := hgo.out
        have hol := hol.out
        rw [List.drop_of_length_le (by omega), List.take_of_length_le (by omega)] at h1
        simp only [maskL, List.append_nil] at h1
        rw [← h1]; rfl
  · cases hv
@[simp] theorem F67_at (a b : AV) (d : Int) (H : Hp) : F67 [a, b, .int .i64 d] H = (ints H a).bind fun sz => (ints H b).map fun sp => .int .i64 (firstL sz sp d) := rfl
end Go.Proofs.Ytokadkakmhfdeaa.Pq
