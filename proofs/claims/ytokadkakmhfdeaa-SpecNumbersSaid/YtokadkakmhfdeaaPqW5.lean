/- Walks: where a device is; the parts' places. -/
import Derived.Test.YtokadkakmhfdeaaPqC3
import Derived.Test.YtokadkakmhfdeaaPqW4
set_option linter.unusedVariables false
set_option linter.unusedSimpArgs false
namespace Go.Proofs.Ytokadkakmhfdeaa.Pq
open Go.RowKit

theorem meshGo_pos : ∀ (l : List Int) (n : Int), meshGo n l = true → ∀ (j : Nat), j < l.length → 1 ≤ nth l j ∧ nth l j ≤ 8 := by
  intro l
  induction l with
  | nil => intro n _ j hj; simp at hj
  | cons a l ih =>
    intro n h j hj
    simp only [meshGo] at h
    split at h
    · cases h
    · rename_i h1
      cases j with
      | zero => simp [nth]; omega
      | succ j =>
        have := ih _ h j (by simpa using hj)
        simpa [nth] using this
theorem meshOK_pos {l : List Int} (h : meshOK l = true) : l.length ≤ 3 ∧ ∀ (j : Nat), j < l.length → 1 ≤ nth l j ∧ nth l j ≤ 8 := by
  unfold meshOK at h
  split at h
  · cases h
  · exact ⟨by omega, meshGo_pos l 1 h⟩

def atW (sz : List Int) : Nat → Int → List Int → List Int
  | 0, _, out => out
  | i + 1, d, out => atW sz i (w (d.tdiv (nth sz i))) (out.set i (d.tmod (nth sz i)))
/-- Where device d is. -/
def meshAt (sz : List Int) (d : Int) : List Int := atW sz sz.length d (List.replicate sz.length 0)
def F123 (args : List AV) (H : Hp) : Option (AV × Hp) := match args with
  | [a, .int .i64 d] => (ints H a).map fun sz => if d < 0 ∨ devs sz ≤ d then (.nilS, H) else mkF H (meshAt sz d)
  | _ => none
set_option maxHeartbeats 1000000 in
theorem snd123 : Sound Try.prog 123 (FSem.eff F123).run := by
  refine sound_of hT (EOK_cons snd88 (EOK_nil _)) mixed A123 Try.func123 hb123 (by kernel_rfl) (by kernel_rfl) (by kernel_rfl) (by kernel_rfl) sh123 2 (by kernel_rfl) rs123 hr123 ?_
  intro args H r H' hw h
  have hv : F123 args H = some (r, H') := h
  clear h
  unfold F123 at hv
  split at hv
  · rename_i v d
    obtain ⟨l, hl, hv⟩ := Option.map_eq_some_iff.1 hv
    have hlen := alenS_ints hl
    have hb := ints_len hl
    have hix := aidxS_ints hl .i64
    have hld := fun {H1 : Hp} (he : Pre H H1) => aload_nth T3 rfl (ints_ext he hl)
    refine ⟨rfl, go ?_⟩
    unfold c123
    simp only [argSl]
    simp only [← aidx22, ← alen22] at hix hlen
    replace hv := Hide.mk hv
    repeat' (first | apply goSeq | apply goReg | apply goSeqN | apply goSeqR | apply goSkip | apply goRet | apply goNil | apply goBlock | apply goExit | apply goBlkN | apply goBlkR | apply goBlkE | apply goSeqE | apply goLoopR | apply goLoopE | (apply goOp; (· (simp [*]; try exact rfl)); (· exact rfl)) | (apply goOp0; (· (simp [*]; try exact rfl)); (· exact rfl)) | (apply goYes; (· (simp [*]; done)); (· (simp [*]; try exact rfl)); (· exact rfl)) | (apply goNo; (· (simp [*]; done))) | (apply goNoU; (· (simp; exact rfl))) | (apply goIfT; (· (simp [*]; done))) | (apply goIfF; (· (simp [*]; done))) | (apply goIf; (· (simp; exact rfl)); (· with_reducible exact rfl)) | (apply goSplit; (· (simp; exact rfl)); (· with_reducible exact rfl)) | (apply goIfQ; (· (simp; exact rfl)); (· exact rfl)) | (apply goSplitQ; (· (simp; exact rfl)); (· exact rfl)) | (apply goBlkX; (· rfl)) | intro _)
    · rename_i h1
      replace hv := hv.out
      rw [if_pos (.inl h1)] at hv
      exact goEndS (l := []) hw (Ext.refl hw) (.inl ⟨rfl, rfl⟩) (by simp) (by simp [rs123]) rfl hv
    · rename_i h1 h2
      replace hv := hv.out
      rw [if_pos (.inr h2)] at hv
      exact goEndS (l := []) hw (Ext.refl hw) (.inl ⟨rfl, rfl⟩) (by simp) (by simp [rs123]) rfl hv
    · rename_i h1 h2
      replace hv := hv.out
      rw [if_neg (by omega)] at hv
      have hm : meshOK l = true := by
        rcases hmm : meshOK l with _ | _
        · exfalso; simp [devs, hmm] at h2; omega
        · rfl
      obtain ⟨h3, hpos⟩ := meshOK_pos hm
      obtain ⟨u, H1, e, ho, he⟩ := make_own (Ext.refl hw) l.length (by omega)
      refine goOp (v := u) (H' := H1) rfl (by simp; exact e) ?_
      replace hv := Hide.mk hv
      repeat' (first | apply goSeq | apply goReg | apply goSeqN | apply goSeqR | apply goSkip | apply goRet | apply goNil | apply goBlock | apply goExit | apply goBlkN | apply goBlkR | apply goBlkE | apply goSeqE | apply goLoopR | apply goLoopE | (apply goOp; (· (simp [*]; try exact rfl)); (· exact rfl)) | (apply goOp0; (· (simp [*]; try exact rfl)); (· exact rfl)) | (apply goYes; (· (simp [*]; done)); (· (simp [*]; try exact rfl)); (· exact rfl)) | (apply goNo; (· (simp [*]; done))) | (apply goNoU; (· (simp; exact rfl))) | (apply goIfT; (· (simp [*]; done))) | (apply goIfF; (· (simp [*]; done))) | (apply goIf; (· (simp; exact rfl)); (· with_reducible exact rfl)) | (apply goSplit; (· (simp; exact rfl)); (· with_reducible exact rfl)) | (apply goIfQ; (· (simp; exact rfl)); (· exact rfl)) | (apply goSplitQ; (· (simp; exact rfl)); (· exact rfl)) | (apply goBlkX; (· rfl)) | intro _)
      have hwl : w ((l.length : Int) - 1) = (l.length : Int) - 1 := w_id (by omega)
      rw [hwl]
      refine goLoop (fun m s1 H1 => Ext H H1 ∧ ∃ (d1 : Int) (out : List Int) (u : AV), m ≤ l.length ∧ get s1 0 = v ∧ get s1 1 = .int .i64 d1 ∧ get s1 5 = u ∧ get s1 6 = .int .i64 ((m : Int) - 1) ∧ OwnF H H1 u out ∧ out.length = l.length ∧ atW l m d1 out = meshAt l d) l.length ?_ ?_
      · exact ⟨he, d, _, u, Nat.le_refl _, rfl, rfl, rfl, rfl, ho, by simp, rfl⟩
      · clear he ho e hwl h1 h2 hm
        rintro m s1 H1 ⟨he, d1, out, u, hi, g1, g2, g3, g4, ho, hol, hgo⟩
        have hixu := aidxS_ints (ints_of_ownF ho (by omega)) .i64
        simp only [← aidx22] at hixu
        have hl1 := hld he.pre
        cases m with
        | zero =>
          simp only [cut_cons, cut_nil, g1, g2, g3, g4]
          clear g1 g2 g3 g4
          replace ho := Hide.mk ho
          replace hgo := Hide.mk hgo
          repeat' (first | apply goSeq | apply goReg | apply goSeqN | apply goSeqR | apply goSkip | apply goRet | apply goNil | apply goBlock | apply goExit | apply goBlkN | apply goBlkR | apply goBlkE | apply goSeqE | apply goLoopR | apply goLoopE | (apply goOp; (· (simp [*]; try exact rfl)); (· exact rfl)) | (apply goOp0; (· (simp [*]; try exact rfl)); (· exact rfl)) | (apply goYes; (· (simp [*]; done)); (· (simp [*]; try exact rfl)); (· exact rfl)) | (apply goNo; (· (simp [*]; done))) | (apply goNoU; (· (simp; exact rfl))) | (apply goIfT; (· (simp [*]; done))) | (apply goIfF; (· (simp [*]; done))) | (apply goIf; (· (simp; exact rfl)); (· with_reducible exact rfl)) | (apply goSplit; (· (simp; exact rfl)); (· with_reducible exact rfl)) | (apply goIfQ; (· (simp; exact rfl)); (· exact rfl)) | (apply goSplitQ; (· (simp; exact rfl)); (· exact rfl)) | (apply goBlkX; (· rfl)) | intro _)
          refine goEndF hw he ho.out (by simp) (by simp [rs123]) rfl ?_
          rw [← hv.out, ← hgo.out]
          rfl
        | succ m =>
          rw [show (((m + 1 : Nat) : Int) - 1) = (m : Int) by omega] at g4
          simp only [cut_cons, cut_nil, g1, g2, g3, g4]
          clear g1 g2 g3 g4
          have hm0 : (0 : Int) ≤ m := Int.natCast_nonneg m
          have hml : m < l.length := by omega
          have hne : ¬ nth l m = 0 := by have := hpos m hml; omega
          have hwm : w ((m : Int) - 1) = (m : Int) - 1 := w_id (by omega)
          replace ho := Hide.mk ho
          replace hgo := Hide.mk hgo
          repeat' (first | apply goSeq | apply goReg | apply goSeqN | apply goSeqR | apply goSkip | apply goRet | apply goNil | apply goBlock | apply goExit | apply goBlkN | apply goBlkR | apply goBlkE | apply goSeqE | apply goLoopR | apply goLoopE | (apply goOp; (· (simp [*]; try exact rfl)); (· exact rfl)) | (apply goOp0; (· (simp [*]; try exact rfl)); (· exact rfl)) | (apply goYes; (· (simp [*]; done)); (· (simp [*]; try exact rfl)); (· exact rfl)) | (apply goNo; (· (simp [*]; done))) | (apply goNoU; (· (simp; exact rfl))) | (apply goIfT; (· (simp [*]; done))) | (apply goIfF; (· (simp [*]; done))) | (apply goIf; (· (simp; exact rfl)); (· with_reducible exact rfl)) | (apply goSplit; (· (simp; exact rfl)); (· with_reducible exact rfl)) | (apply goIfQ; (· (simp; exact rfl)); (· exact rfl)) | (apply goSplitQ; (· (simp; exact rfl)); (· exact rfl)) | (apply goBlkX; (· rfl)) | intro _)
          obtain ⟨H2, e, ho', he'⟩ := store_own hw he ho.out m (by omega) (d1.tmod (nth l m))
          have hl2 := hld he'.pre
          refine goOp0 (v := .bad) (H' := H2) rfl (by simp [e]) ?_
          replace ho' := Hide.mk ho'
          clear e
          repeat' (first | apply goSeq | apply goReg | apply goSeqN | apply goSeqR | apply goSkip | apply goRet | apply goNil | apply goBlock | apply goExit | apply goBlkN | apply goBlkR | apply goBlkE | apply goSeqE | apply goLoopR | apply goLoopE | (apply goOp; (· (simp [*]; try exact rfl)); (· exact rfl)) | (apply goOp0; (· (simp [*]; try exact rfl)); (· exact rfl)) | (apply goYes; (· (simp [*]; done)); (· (simp [*]; try exact rfl)); (· exact rfl)) | (apply goNo; (· (simp [*]; done))) | (apply goNoU; (· (simp; exact rfl))) | (apply goIfT; (· (simp [*]; done))) | (apply goIfF; (· (simp [*]; done))) | (apply goIf; (· (simp; exact rfl)); (· with_reducible exact rfl)) | (apply goSplit; (· (simp; exact rfl)); (· with_reducible exact rfl)) | (apply goIfQ; (· (simp; exact rfl)); (· exact rfl)) | (apply goSplitQ; (· (simp; exact rfl)); (· exact rfl)) | (apply goBlkX; (· rfl)) | intro _)
          exact goLoopN m (by omega) ⟨he', _, _, u, by omega, rfl, rfl, rfl, rfl, ho'.out, by simp [hol], by rw [← hgo.out]; rfl⟩
  · cases hv
end Go.Proofs.Ytokadkakmhfdeaa.Pq
