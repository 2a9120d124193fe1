/- Walks: which device is somewhere; lists that are the same. -/
import Derived.Test.YtokadkakmhfdeaaPqWD
set_option linter.unusedVariables false
set_option linter.unusedSimpArgs false
namespace Go.Proofs.Ytokadkakmhfdeaa.Pq
open Go.RowKit

def ofGo : Int → List Int → List Int → Int
  | d, s :: sz, k :: l => if k < 0 ∨ s ≤ k then -1 else ofGo (w (w (d * s) + k)) sz l
  | d, _, _ => d
/-- Which device is there. -/
def ofL (sz l : List Int) : Int := if meshOK sz = false ∨ l.length ≠ sz.length then -1 else ofGo 0 sz l
def F126 (args : List AV) (H : Hp) : Option AV := match args with
  | [a, b] => (ints H a).bind fun sz => (ints H b).map fun l => .int .i64 (ofL sz l)
  | _ => none
set_option maxHeartbeats 1000000 in
theorem snd126 : Sound Try.prog 126 (FSem.pure F126).run := by
  refine sound_of hT (EOK_cons snd89 (EOK_nil _)) mixed A126 Try.func126 hb126 (by kernel_rfl) (by kernel_rfl) (by kernel_rfl) (by kernel_rfl) sh126 2 (by kernel_rfl) rs126 hr126 ?_
  intro args H r H' hw h
  obtain ⟨rfl, hv⟩ := pureAt h
  clear h
  unfold F126 at hv
  split at hv
  · rename_i a v
    obtain ⟨sz, hsz, hv⟩ := Option.bind_eq_some_iff.1 hv
    obtain ⟨l, hl, hv⟩ := Option.map_eq_some_iff.1 hv
    cases hv
    have hlen := alenS_ints hl
    have hb := ints_len hl
    have hlen2 := alenS_ints hsz
    have hix := aidxS_ints hl .i64
    have hld := aload_nth T3 rfl hl
    have hix2 := aidxS_ints hsz .i64
    have hld2 := aload_nth T3 rfl hsz
    refine ⟨rfl, go ?_⟩
    unfold c126
    simp only [argSl]
    simp only [← aidx22, ← alen22] at hix hlen hix2 hlen2
    rcases hm : meshOK sz with _ | _
    · repeat' (first | apply goSeq | apply goReg | apply goSeqN | apply goSeqR | apply goSkip | apply goRet | apply goNil | apply goBlock | apply goExit | apply goBlkN | apply goBlkR | apply goBlkE | apply goSeqE | apply goLoopR | apply goLoopE | (apply goOp; (· (simp [*]; try exact rfl)); (· exact rfl)) | (apply goOp0; (· (simp [*]; try exact rfl)); (· exact rfl)) | (apply goYes; (· (simp [*]; done)); (· (simp [*]; try exact rfl)); (· exact rfl)) | (apply goNo; (· (simp [*]; done))) | (apply goNoU; (· (simp; exact rfl))) | (apply goIfT; (· (simp [*]; done))) | (apply goIfF; (· (simp [*]; done))) | (apply goIf; (· (simp; exact rfl)); (· with_reducible exact rfl)) | (apply goSplit; (· (simp; exact rfl)); (· with_reducible exact rfl)) | (apply goIfQ; (· (simp; exact rfl)); (· exact rfl)) | (apply goSplitQ; (· (simp; exact rfl)); (· exact rfl)) | (apply goBlkX; (· rfl)) | intro _)
      refine goEnd hw (Pre.refl _) (by simp) (by simp [rs126]; exact rfl) rfl ?_
      simp [ofL, hm]
    · by_cases hll : l.length = sz.length
      · have hres : ofL sz l = ofGo 0 sz l := by simp [ofL, hm, hll]
        have hll' : (sz.length : Int) = l.length := by omega
        rw [hres]
        rw [hll'] at hix2 hld2 hlen2
        have hll'' : l.length = sz.length := hll
        clear hll hll' hres
        replace hll'' := Hide.mk hll''
        repeat' (first | apply goSeq | apply goReg | apply goSeqN | apply goSeqR | apply goSkip | apply goRet | apply goNil | apply goBlock | apply goExit | apply goBlkN | apply goBlkR | apply goBlkE | apply goSeqE | apply goLoopR | apply goLoopE | (apply goOp; (· (simp [*]; try exact rfl)); (· exact rfl)) | (apply goOp0; (· (simp [*]; try exact rfl)); (· exact rfl)) | (apply goYes; (· (simp [*]; done)); (· (simp [*]; try exact rfl)); (· exact rfl)) | (apply goNo; (· (simp [*]; done))) | (apply goNoU; (· (simp; exact rfl))) | (apply goIfT; (· (simp [*]; done))) | (apply goIfF; (· (simp [*]; done))) | (apply goIf; (· (simp; exact rfl)); (· with_reducible exact rfl)) | (apply goSplit; (· (simp; exact rfl)); (· with_reducible exact rfl)) | (apply goIfQ; (· (simp; exact rfl)); (· exact rfl)) | (apply goSplitQ; (· (simp; exact rfl)); (· exact rfl)) | (apply goBlkX; (· rfl)) | intro _)
        refine goLoop (fun m s1 H1 => H1 = H' ∧ ∃ (i : Nat) (d : Int), m = l.length - i ∧ i ≤ l.length ∧ get s1 0 = a ∧ get s1 5 = .int .i64 d ∧ get s1 18 = v ∧ get s1 19 = .int .i64 l.length ∧ get s1 20 = .int .i64 i ∧ ofGo d (sz.drop i) (l.drop i) = ofGo 0 sz l) l.length ?_ ?_
        · exact ⟨rfl, 0, 0, rfl, Nat.zero_le _, rfl, rfl, rfl, rfl, rfl, by simp⟩
        · rintro m s1 H1 ⟨rfl, i, d, hmm, hi, g1, g2, g3, g4, g5, hgo⟩
          simp only [cut_cons, cut_nil, g1, g2, g3, g4, g5]
          clear g1 g2 g3 g4 g5
          have hi0 : (0 : Int) ≤ i := Int.natCast_nonneg i
          have hw1 : w ((i : Int) + 1) = ((i + 1 : Nat) : Int) := w_id (by omega)
          have hd := fun h => drop_nth l i h
          have hd2 : i < l.length → sz.drop i = nth sz i :: sz.drop (i + 1) := fun h => drop_nth sz i (by have := hll''.out; omega)
          have hnil : ¬ i < l.length → l.drop i = [] := fun h => List.drop_of_length_le (by omega)
          replace hgo := Hide.mk hgo
          replace hd := Hide.mk hd
          replace hd2 := Hide.mk hd2
          replace hnil := Hide.mk hnil
          repeat' (first | apply goSeq | apply goReg | apply goSeqN | apply goSeqR | apply goSkip | apply goRet | apply goNil | apply goBlock | apply goExit | apply goBlkN | apply goBlkR | apply goBlkE | apply goSeqE | apply goLoopR | apply goLoopE | (apply goOp; (· (simp [*]; try exact rfl)); (· exact rfl)) | (apply goOp0; (· (simp [*]; try exact rfl)); (· exact rfl)) | (apply goYes; (· (simp [*]; done)); (· (simp [*]; try exact rfl)); (· exact rfl)) | (apply goNo; (· (simp [*]; done))) | (apply goNoU; (· (simp; exact rfl))) | (apply goIfT; (· (simp [*]; done))) | (apply goIfF; (· (simp [*]; done))) | (apply goIf; (· (simp; exact rfl)); (· with_reducible exact rfl)) | (apply goSplit; (· (simp; exact rfl)); (· with_reducible exact rfl)) | (apply goIfQ; (· (simp; exact rfl)); (· exact rfl)) | (apply goSplitQ; (· (simp; exact rfl)); (· exact rfl)) | (apply goBlkX; (· rfl)) | intro _)
          all_goals replace hgo := hgo.out
          all_goals replace hd := hd.out
          all_goals replace hd2 := hd2.out
          all_goals (try simp only [Bool.not_eq_true', decide_eq_false_iff_not, Bool.not_eq_false', decide_eq_true_eq] at *)
          all_goals first
            | (refine goEnd hw (Pre.refl _) (by simp) (by simp [rs126]; exact rfl) rfl ?_; rw [← hgo, hd (by assumption), hd2 (by assumption)]; simp [ofGo, *]; done)
            | (refine goEnd hw (Pre.refl _) (by simp) (by simp [rs126]; exact rfl) rfl ?_; rw [← hgo, hnil.out (by assumption)]; cases sz.drop i <;> simp [ofGo]; done)
            | (refine goLoopN (l.length - (i + 1)) (by omega) ⟨rfl, i + 1, _, rfl, by omega, rfl, rfl, rfl, rfl, rfl, ?_⟩; rw [← hgo, hd (by assumption), hd2 (by assumption)]; simp [ofGo, *])
      · repeat' (first | apply goSeq | apply goReg | apply goSeqN | apply goSeqR | apply goSkip | apply goRet | apply goNil | apply goBlock | apply goExit | apply goBlkN | apply goBlkR | apply goBlkE | apply goSeqE | apply goLoopR | apply goLoopE | (apply goOp; (· (simp [*]; try exact rfl)); (· exact rfl)) | (apply goOp0; (· (simp [*]; try exact rfl)); (· exact rfl)) | (apply goYes; (· (simp [*]; done)); (· (simp [*]; try exact rfl)); (· exact rfl)) | (apply goNo; (· (simp [*]; done))) | (apply goNoU; (· (simp; exact rfl))) | (apply goIfT; (· (simp [*]; done))) | (apply goIfF; (· (simp [*]; done))) | (apply goIf; (· (simp; exact rfl)); (· with_reducible exact rfl)) | (apply goSplit; (· (simp; exact rfl)); (· with_reducible exact rfl)) | (apply goIfQ; (· (simp; exact rfl)); (· exact rfl)) | (apply goSplitQ; (· (simp; exact rfl)); (· exact rfl)) | (apply goBlkX; (· rfl)) | intro _)
        · refine goEnd hw (Pre.refl _) (by simp) (by simp [rs126]; exact rfl) rfl ?_
          simp [ofL, hm, hll]
        · rename_i hc
          simp at hc
          omega
  · cases hv
@[simp] theorem F126_at (a b : AV) (H : Hp) : F126 [a, b] H = (ints H a).bind fun sz => (ints H b).map fun l => .int .i64 (ofL sz l) := rfl

def rOfL (sz l : List Int) : Int := if rOK sz = false ∨ l.length ≠ sz.length then -1 else ofGo 0 sz l
theorem rOfL_eq (sz l : List Int) : rOfL sz l = ofL sz l := by simp only [rOfL, ofL, rOK_eq]
def F127 (args : List AV) (H : Hp) : Option AV := match args with
  | [a, b] => (ints H a).bind fun sz => (ints H b).map fun l => .int .i64 (rOfL sz l)
  | _ => none
set_option maxHeartbeats 1000000 in
theorem snd127 : Sound Try.prog 127 (FSem.pure F127).run := by
  refine sound_of hT (EOK_cons snd56 (EOK_nil _)) mixed A127 Try.func127 hb127 (by kernel_rfl) (by kernel_rfl) (by kernel_rfl) (by kernel_rfl) sh127 2 (by kernel_rfl) rs127 hr127 ?_
  intro args H r H' hw h
  obtain ⟨rfl, hv⟩ := pureAt h
  clear h
  unfold F127 at hv
  split at hv
  · rename_i a v
    obtain ⟨sz, hsz, hv⟩ := Option.bind_eq_some_iff.1 hv
    obtain ⟨l, hl, hv⟩ := Option.map_eq_some_iff.1 hv
    cases hv
    have hlen := alenS_ints hl
    have hb := ints_len hl
    have hlen2 := alenS_ints hsz
    have hix := aidxS_ints hl .i64
    have hld := aload_nth T3 rfl hl
    have hix2 := aidxS_ints hsz .i64
    have hld2 := aload_nth T3 rfl hsz
    refine ⟨rfl, go ?_⟩
    unfold c127
    simp only [argSl]
    simp only [← aidx22, ← alen22] at hix hlen hix2 hlen2
    rcases hm : rOK sz with _ | _
    · repeat' (first | apply goSeq | apply goReg | apply goSeqN | apply goSeqR | apply goSkip | apply goRet | apply goNil | apply goBlock | apply goExit | apply goBlkN | apply goBlkR | apply goBlkE | apply goSeqE | apply goLoopR | apply goLoopE | (apply goOp; (· (simp [*]; try exact rfl)); (· exact rfl)) | (apply goOp0; (· (simp [*]; try exact rfl)); (· exact rfl)) | (apply goYes; (· (simp [*]; done)); (· (simp [*]; try exact rfl)); (· exact rfl)) | (apply goNo; (· (simp [*]; done))) | (apply goNoU; (· (simp; exact rfl))) | (apply goIfT; (· (simp [*]; done))) | (apply goIfF; (· (simp [*]; done))) | (apply goIf; (· (simp; exact rfl)); (· with_reducible exact rfl)) | (apply goSplit; (· (simp; exact rfl)); (· with_reducible exact rfl)) | (apply goIfQ; (· (simp; exact rfl)); (· exact rfl)) | (apply goSplitQ; (· (simp; exact rfl)); (· exact rfl)) | (apply goBlkX; (· rfl)) | intro _)
      refine goEnd hw (Pre.refl _) (by simp) (by simp [rs127]; exact rfl) rfl ?_
      simp [rOfL, hm]
    · by_cases hll : l.length = sz.length
      · have hres : rOfL sz l = ofGo 0 sz l := by simp [rOfL, hm, hll]
        have hll' : (sz.length : Int) = l.length := by omega
        rw [hres]
        rw [hll'] at hix2 hld2 hlen2
        have hll'' : l.length = sz.length := hll
        clear hll hll' hres
        replace hll'' := Hide.mk hll''
        repeat' (first | apply goSeq | apply goReg | apply goSeqN | apply goSeqR | apply goSkip | apply goRet | apply goNil | apply goBlock | apply goExit | apply goBlkN | apply goBlkR | apply goBlkE | apply goSeqE | apply goLoopR | apply goLoopE | (apply goOp; (· (simp [*]; try exact rfl)); (· exact rfl)) | (apply goOp0; (· (simp [*]; try exact rfl)); (· exact rfl)) | (apply goYes; (· (simp [*]; done)); (· (simp [*]; try exact rfl)); (· exact rfl)) | (apply goNo; (· (simp [*]; done))) | (apply goNoU; (· (simp; exact rfl))) | (apply goIfT; (· (simp [*]; done))) | (apply goIfF; (· (simp [*]; done))) | (apply goIf; (· (simp; exact rfl)); (· with_reducible exact rfl)) | (apply goSplit; (· (simp; exact rfl)); (· with_reducible exact rfl)) | (apply goIfQ; (· (simp; exact rfl)); (· exact rfl)) | (apply goSplitQ; (· (simp; exact rfl)); (· exact rfl)) | (apply goBlkX; (· rfl)) | intro _)
        refine goLoop (fun m s1 H1 => H1 = H' ∧ ∃ (i : Nat) (d : Int), m = l.length - i ∧ i ≤ l.length ∧ get s1 0 = a ∧ get s1 1 = v ∧ get s1 5 = .int .i64 d ∧ get s1 18 = .int .i64 l.length ∧ get s1 19 = .int .i64 i ∧ ofGo d (sz.drop i) (l.drop i) = ofGo 0 sz l) l.length ?_ ?_
        · exact ⟨rfl, 0, 0, rfl, Nat.zero_le _, rfl, rfl, rfl, rfl, rfl, by simp⟩
        · rintro m s1 H1 ⟨rfl, i, d, hmm, hi, g1, g2, g3, g4, g5, hgo⟩
          simp only [cut_cons, cut_nil, g1, g2, g3, g4, g5]
          clear g1 g2 g3 g4 g5
          have hi0 : (0 : Int) ≤ i := Int.natCast_nonneg i
          have hw1 : w ((i : Int) + 1) = ((i + 1 : Nat) : Int) := w_id (by omega)
          have hd := fun h => drop_nth l i h
          have hd2 : i < l.length → sz.drop i = nth sz i :: sz.drop (i + 1) := fun h => drop_nth sz i (by have := hll''.out; omega)
          have hnil : ¬ i < l.length → l.drop i = [] := fun h => List.drop_of_length_le (by omega)
          replace hgo := Hide.mk hgo
          replace hd := Hide.mk hd
          replace hd2 := Hide.mk hd2
          replace hnil := Hide.mk hnil
          repeat' (first | apply goSeq | apply goReg | apply goSeqN | apply goSeqR | apply goSkip | apply goRet | apply goNil | apply goBlock | apply goExit | apply goBlkN | apply goBlkR | apply goBlkE | apply goSeqE | apply goLoopR | apply goLoopE | (apply goOp; (· (simp [*]; try exact rfl)); (· exact rfl)) | (apply goOp0; (· (simp [*]; try exact rfl)); (· exact rfl)) | (apply goYes; (· (simp [*]; done)); (· (simp [*]; try exact rfl)); (· exact rfl)) | (apply goNo; (· (simp [*]; done))) | (apply goNoU; (· (simp; exact rfl))) | (apply goIfT; (· (simp [*]; done))) | (apply goIfF; (· (simp [*]; done))) | (apply goIf; (· (simp; exact rfl)); (· with_reducible exact rfl)) | (apply goSplit; (· (simp; exact rfl)); (· with_reducible exact rfl)) | (apply goIfQ; (· (simp; exact rfl)); (· exact rfl)) | (apply goSplitQ; (· (simp; exact rfl)); (· exact rfl)) | (apply goBlkX; (· rfl)) | intro _)
          all_goals replace hgo := hgo.out
          all_goals replace hd := hd.out
          all_goals replace hd2 := hd2.out
          all_goals (try simp only [Bool.not_eq_true', decide_eq_false_iff_not, Bool.not_eq_false', decide_eq_true_eq] at *)
          all_goals first
            | (refine goEnd hw (Pre.refl _) (by simp) (by simp [rs127]; exact rfl) rfl ?_; rw [← hgo, hd (by assumption), hd2 (by assumption)]; simp [ofGo, *]; done)
            | (refine goEnd hw (Pre.refl _) (by simp) (by simp [rs127]; exact rfl) rfl ?_; rw [← hgo, hnil.out (by assumption)]; cases sz.drop i <;> simp [ofGo]; done)
            | (refine goLoopN (l.length - (i + 1)) (by omega) ⟨rfl, i + 1, _, rfl, by omega, rfl, rfl, rfl, rfl, rfl, ?_⟩; rw [← hgo, hd (by assumption), hd2 (by assumption)]; simp [ofGo, *])
      · repeat' (first | apply goSeq | apply goReg | apply goSeqN | apply goSeqR | apply goSkip | apply goRet | apply goNil | apply goBlock | apply goExit | apply goBlkN | apply goBlkR | apply goBlkE | apply goSeqE | apply goLoopR | apply goLoopE | (apply goOp; (· (simp [*]; try exact rfl)); (· exact rfl)) | (apply goOp0; (· (simp [*]; try exact rfl)); (· exact rfl)) | (apply goYes; (· (simp [*]; done)); (· (simp [*]; try exact rfl)); (· exact rfl)) | (apply goNo; (· (simp [*]; done))) | (apply goNoU; (· (simp; exact rfl))) | (apply goIfT; (· (simp [*]; done))) | (apply goIfF; (· (simp [*]; done))) | (apply goIf; (· (simp; exact rfl)); (· with_reducible exact rfl)) | (apply goSplit; (· (simp; exact rfl)); (· with_reducible exact rfl)) | (apply goIfQ; (· (simp; exact rfl)); (· exact rfl)) | (apply goSplitQ; (· (simp; exact rfl)); (· exact rfl)) | (apply goBlkX; (· rfl)) | intro _)
        · refine goEnd hw (Pre.refl _) (by simp) (by simp [rs127]; exact rfl) rfl ?_
          simp [rOfL, hm, hll]
        · rename_i hc
          simp at hc
          omega
  · cases hv
@[simp] theorem F127_at (a b : AV) (H : Hp) : F127 [a, b] H = (ints H a).bind fun sz => (ints H b).map fun l => .int .i64 (rOfL sz l) := rfl

end Go.Proofs.Ytokadkakmhfdeaa.Pq
