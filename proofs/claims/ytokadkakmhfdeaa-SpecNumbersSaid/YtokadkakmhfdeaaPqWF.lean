/- Walks: where a device is, in the document; slices.Equal; the least device that has the same part. -/
import Derived.Test.YtokadkakmhfdeaaPqWE
set_option linter.unusedVariables false
set_option linter.unusedSimpArgs false
namespace Go.Proofs.Ytokadkakmhfdeaa.Pq
open Go.RowKit

def F98 (args : List AV) (H : Hp) : Option (AV × Hp) := match args with
  | [a, .int .i64 d] => (ints H a).map fun sz => if d < 0 ∨ devs sz ≤ d then (.nilS, H) else mkF H (meshAt sz d)
  | _ => none
set_option maxHeartbeats 1000000 in
theorem snd98 : Sound Try.prog 98 (FSem.eff F98).run := by
  refine sound_of hT (EOK_cons snd20 (EOK_nil _)) mixed A98 Try.func98 hb98 (by kernel_rfl) (by kernel_rfl) (by kernel_rfl) (by kernel_rfl) sh98 2 (by kernel_rfl) rs98 hr98 ?_
  intro args H r H' hw h
  have hv : F98 args H = some (r, H') := h
  clear h
  unfold F98 at hv
  split at hv
  · rename_i v d
    obtain ⟨l, hl, hv⟩ := Option.map_eq_some_iff.1 hv
    have hlen := alenS_ints hl
    have hrd := rDevs_eq l
    have hb := ints_len hl
    have hix := aidxS_ints hl .i64
    have hld := fun {H1 : Hp} (he : Pre H H1) => aload_nth T3 rfl (ints_ext he hl)
    refine ⟨rfl, go ?_⟩
    unfold c98
    simp only [argSl]
    simp only [← aidx22, ← alen22] at hix hlen
    replace hv := Hide.mk hv
    repeat' (first | apply goSeq | apply goReg | apply goSeqN | apply goSeqR | apply goSkip | apply goRet | apply goNil | apply goBlock | apply goExit | apply goBlkN | apply goBlkR | apply goBlkE | apply goSeqE | apply goLoopR | apply goLoopE | (apply goOp; (· (simp [*]; try exact rfl)); (· exact rfl)) | (apply goOp0; (· (simp [*]; try exact rfl)); (· exact rfl)) | (apply goYes; (· (simp [*]; done)); (· (simp [*]; try exact rfl)); (· exact rfl)) | (apply goNo; (· (simp [*]; done))) | (apply goNoU; (· (simp; exact rfl))) | (apply goIfT; (· (simp [*]; done))) | (apply goIfF; (· (simp [*]; done))) | (apply goIf; (· (simp; exact rfl)); (· with_reducible exact rfl)) | (apply goSplit; (· (simp; exact rfl)); (· with_reducible exact rfl)) | (apply goIfQ; (· (simp; exact rfl)); (· exact rfl)) | (apply goSplitQ; (· (simp; exact rfl)); (· exact rfl)) | (apply goBlkX; (· rfl)) | intro _)
    · rename_i h1
      replace hv := hv.out
      rw [if_pos (.inl h1)] at hv
      exact goEndS (l := []) hw (Ext.refl hw) (.inl ⟨rfl, rfl⟩) (by simp) (by simp [rs98]) rfl hv
    · rename_i h1 h2
      replace hv := hv.out
      rw [if_pos (.inr h2)] at hv
      exact goEndS (l := []) hw (Ext.refl hw) (.inl ⟨rfl, rfl⟩) (by simp) (by simp [rs98]) rfl hv
    · rename_i h1 h2
      replace hv := hv.out
      rw [if_neg (by omega)] at hv
      have hm : meshOK l = true := by
        rcases hmm : meshOK l with _ | _
        · exfalso; simp [devs, hmm] at h2; omega
        · rfl
      obtain ⟨h3, hpos⟩ := meshOK_pos hm
      obtain ⟨u, H1, e, ho, he⟩ := make_own (Ext.refl hw) l.length (by omega)
      refine goOp (v := u) (H' := H1) rfl (by simp; exact e) ?_
      replace hv := Hide.mk hv
      repeat' (first | apply goSeq | apply goReg | apply goSeqN | apply goSeqR | apply goSkip | apply goRet | apply goNil | apply goBlock | apply goExit | apply goBlkN | apply goBlkR | apply goBlkE | apply goSeqE | apply goLoopR | apply goLoopE | (apply goOp; (· (simp [*]; try exact rfl)); (· exact rfl)) | (apply goOp0; (· (simp [*]; try exact rfl)); (· exact rfl)) | (apply goYes; (· (simp [*]; done)); (· (simp [*]; try exact rfl)); (· exact rfl)) | (apply goNo; (· (simp [*]; done))) | (apply goNoU; (· (simp; exact rfl))) | (apply goIfT; (· (simp [*]; done))) | (apply goIfF; (· (simp [*]; done))) | (apply goIf; (· (simp; exact rfl)); (· with_reducible exact rfl)) | (apply goSplit; (· (simp; exact rfl)); (· with_reducible exact rfl)) | (apply goIfQ; (· (simp; exact rfl)); (· exact rfl)) | (apply goSplitQ; (· (simp; exact rfl)); (· exact rfl)) | (apply goBlkX; (· rfl)) | intro _)
      have hwl : w ((l.length : Int) - 1) = (l.length : Int) - 1 := w_id (by omega)
      rw [hwl]
      refine goLoop (fun m s1 H1 => Ext H H1 ∧ ∃ (d1 : Int) (out : List Int) (u : AV), m ≤ l.length ∧ get s1 0 = v ∧ get s1 1 = .int .i64 d1 ∧ get s1 5 = u ∧ get s1 6 = .int .i64 ((m : Int) - 1) ∧ OwnF H H1 u out ∧ out.length = l.length ∧ atW l m d1 out = meshAt l d) l.length ?_ ?_
      · exact ⟨he, d, _, u, Nat.le_refl _, rfl, rfl, rfl, rfl, ho, by simp, rfl⟩
      · clear he ho e hwl h1 h2 hm
        rintro m s1 H1 ⟨he, d1, out, u, hi, g1, g2, g3, g4, ho, hol, hgo⟩
        have hixu := aidxS_ints (ints_of_ownF ho (by omega)) .i64
        simp only [← aidx22] at hixu
        have hl1 := hld he.pre
        cases m with
        | zero =>
          simp only [cut_cons, cut_nil, g1, g2, g3, g4]
          clear g1 g2 g3 g4
          replace ho := Hide.mk ho
          replace hgo := Hide.mk hgo
          repeat' (first | apply goSeq | apply goReg | apply goSeqN | apply goSeqR | apply goSkip | apply goRet | apply goNil | apply goBlock | apply goExit | apply goBlkN | apply goBlkR | apply goBlkE | apply goSeqE | apply goLoopR | apply goLoopE | (apply goOp; (· (simp [*]; try exact rfl)); (· exact rfl)) | (apply goOp0; (· (simp [*]; try exact rfl)); (· exact rfl)) | (apply goYes; (· (simp [*]; done)); (· (simp [*]; try exact rfl)); (· exact rfl)) | (apply goNo; (· (simp [*]; done))) | (apply goNoU; (· (simp; exact rfl))) | (apply goIfT; (· (simp [*]; done))) | (apply goIfF; (· (simp [*]; done))) | (apply goIf; (· (simp; exact rfl)); (· with_reducible exact rfl)) | (apply goSplit; (· (simp; exact rfl)); (· with_reducible exact rfl)) | (apply goIfQ; (· (simp; exact rfl)); (· exact rfl)) | (apply goSplitQ; (· (simp; exact rfl)); (· exact rfl)) | (apply goBlkX; (· rfl)) | intro _)
          refine goEndF hw he ho.out (by simp) (by simp [rs98]) rfl ?_
          rw [← hv.out, ← hgo.out]
          rfl
        | succ m =>
          rw [show (((m + 1 : Nat) : Int) - 1) = (m : Int) by omega] at g4
          simp only [cut_cons, cut_nil, g1, g2, g3, g4]
          clear g1 g2 g3 g4
          have hm0 : (0 : Int) ≤ m := Int.natCast_nonneg m
          have hml : m < l.length := by omega
          have hne : ¬ nth l m = 0 := by have := hpos m hml; omega
          have hwm : w ((m : Int) - 1) = (m : Int) - 1 := w_id (by omega)
          replace ho := Hide.mk ho
          replace hgo := Hide.mk hgo
          repeat' (first | apply goSeq | apply goReg | apply goSeqN | apply goSeqR | apply goSkip | apply goRet | apply goNil | apply goBlock | apply goExit | apply goBlkN | apply goBlkR | apply goBlkE | apply goSeqE | apply goLoopR | apply goLoopE | (apply goOp; (· (simp [*]; try exact rfl)); (· exact rfl)) | (apply goOp0; (· (simp [*]; try exact rfl)); (· exact rfl)) | (apply goYes; (· (simp [*]; done)); (· (simp [*]; try exact rfl)); (· exact rfl)) | (apply goNo; (· (simp [*]; done))) | (apply goNoU; (· (simp; exact rfl))) | (apply goIfT; (· (simp [*]; done))) | (apply goIfF; (· (simp [*]; done))) | (apply goIf; (· (simp; exact rfl)); (· with_reducible exact rfl)) | (apply goSplit; (· (simp; exact rfl)); (· with_reducible exact rfl)) | (apply goIfQ; (· (simp; exact rfl)); (· exact rfl)) | (apply goSplitQ; (· (simp; exact rfl)); (· exact rfl)) | (apply goBlkX; (· rfl)) | intro _)
          obtain ⟨H2, e, ho', he'⟩ := store_own hw he ho.out m (by omega) (d1.tmod (nth l m))
          have hl2 := hld he'.pre
          refine goOp0 (v := .bad) (H' := H2) rfl (by simp [e]) ?_
          replace ho' := Hide.mk ho'
          clear e
          repeat' (first | apply goSeq | apply goReg | apply goSeqN | apply goSeqR | apply goSkip | apply goRet | apply goNil | apply goBlock | apply goExit | apply goBlkN | apply goBlkR | apply goBlkE | apply goSeqE | apply goLoopR | apply goLoopE | (apply goOp; (· (simp [*]; try exact rfl)); (· exact rfl)) | (apply goOp0; (· (simp [*]; try exact rfl)); (· exact rfl)) | (apply goYes; (· (simp [*]; done)); (· (simp [*]; try exact rfl)); (· exact rfl)) | (apply goNo; (· (simp [*]; done))) | (apply goNoU; (· (simp; exact rfl))) | (apply goIfT; (· (simp [*]; done))) | (apply goIfF; (· (simp [*]; done))) | (apply goIf; (· (simp; exact rfl)); (· with_reducible exact rfl)) | (apply goSplit; (· (simp; exact rfl)); (· with_reducible exact rfl)) | (apply goIfQ; (· (simp; exact rfl)); (· exact rfl)) | (apply goSplitQ; (· (simp; exact rfl)); (· exact rfl)) | (apply goBlkX; (· rfl)) | intro _)
          exact goLoopN m (by omega) ⟨he', _, _, u, by omega, rfl, rfl, rfl, rfl, ho'.out, by simp [hol], by rw [← hgo.out]; rfl⟩
  · cases hv
@[simp] theorem F98_at (a : AV) (d : Int) (H : Hp) : F98 [a, .int .i64 d] H = (ints H a).map fun sz => if d < 0 ∨ devs sz ≤ d then (.nilS, H) else mkF H (meshAt sz d) := rfl

def F129 (args : List AV) (H : Hp) : Option AV := match args with
  | [a, b] => (ints H a).bind fun l => (ints H b).map fun m => .bool (sameL l m)
  | _ => none
theorem snd129 : Sound Try.prog 129 (FSem.pure F129).run := by
  refine sound_of hT (EOK_nil _) mixed A129 Try.func129 hb129 (by kernel_rfl) (by kernel_rfl) (by kernel_rfl) (by kernel_rfl) sh129 2 (by kernel_rfl) rs129 hr129 ?_
  intro args H r H' hw h
  obtain ⟨rfl, hv⟩ := pureAt h
  clear h
  unfold F129 at hv
  split at hv
  · rename_i v u
    obtain ⟨l, hl, hv⟩ := Option.bind_eq_some_iff.1 hv
    obtain ⟨q, hq, hv⟩ := Option.map_eq_some_iff.1 hv
    cases hv
    have hlen := alenS_ints hl
    have hlen2 := alenS_ints hq
    have hb := ints_len hl
    have hix := aidxS_ints hl .i64
    have hld := aload_nth T3 rfl hl
    have hix2 := aidxS_ints hq .i64
    have hld2 := aload_nth T3 rfl hq
    refine ⟨rfl, go ?_⟩
    unfold c129
    simp only [argSl]
    simp only [← aidx22, ← alen22] at hix hlen hix2 hlen2
    repeat' (first | apply goSeq | apply goReg | apply goSeqN | apply goSeqR | apply goSkip | apply goRet | apply goNil | apply goBlock | apply goExit | apply goBlkN | apply goBlkR | apply goBlkE | apply goSeqE | apply goLoopR | apply goLoopE | (apply goOp; (· (simp [*]; try exact rfl)); (· exact rfl)) | (apply goOp0; (· (simp [*]; try exact rfl)); (· exact rfl)) | (apply goYes; (· (simp [*]; done)); (· (simp [*]; try exact rfl)); (· exact rfl)) | (apply goNo; (· (simp [*]; done))) | (apply goNoU; (· (simp; exact rfl))) | (apply goIfT; (· (simp [*]; done))) | (apply goIfF; (· (simp [*]; done))) | (apply goIf; (· (simp; exact rfl)); (· with_reducible exact rfl)) | (apply goSplit; (· (simp; exact rfl)); (· with_reducible exact rfl)) | (apply goIfQ; (· (simp; exact rfl)); (· exact rfl)) | (apply goSplitQ; (· (simp; exact rfl)); (· exact rfl)) | (apply goBlkX; (· rfl)) | intro _)
    · rename_i hne
      refine goEnd hw (Pre.refl _) (by simp) (by simp [rs129]; exact rfl) rfl ?_
      have : ¬ l.length = q.length := by simp at hne; omega
      simp [sameL, this]
    · rename_i hne
      have hll : l.length = q.length := by simp at hne; omega
      have hll' : (q.length : Int) = l.length := by omega
      have hres : sameL l q = sameGo l q := by simp [sameL, hll]
      rw [hres]
      clear hne hv hres hlen2
      refine goLoop (fun m s1 H1 => H1 = H' ∧ ∃ (i : Nat), m = l.length - i ∧ i ≤ l.length ∧ get s1 0 = v ∧ get s1 1 = u ∧ get s1 12 = .int .i64 l.length ∧ get s1 13 = .int .i64 i ∧ sameGo (l.drop i) (q.drop i) = sameGo l q) l.length ?_ ?_
      · exact ⟨rfl, 0, rfl, Nat.zero_le _, rfl, rfl, rfl, rfl, by simp⟩
      · rintro m s1 H1 ⟨rfl, i, hm, hi, g3, g9, g10, g11, hgo⟩
        simp only [cut_cons, cut_nil, g3, g9, g10, g11]
        have hi0 : (0 : Int) ≤ i := Int.natCast_nonneg i
        have hd := fun h => drop_nth l i h
        have hnil : ¬ i < l.length → l.drop i = [] := fun h => List.drop_of_length_le (by omega)
        have hw1 : w ((i : Int) + 1) = ((i + 1 : Nat) : Int) := w_id (by omega)
        clear g3 g9 g10 g11
        rw [hll'] at hix2 hld2
        replace hgo := Hide.mk hgo
        clear hll hll'
        repeat' (first | apply goSeq | apply goReg | apply goSeqN | apply goSeqR | apply goSkip | apply goRet | apply goNil | apply goBlock | apply goExit | apply goBlkN | apply goBlkR | apply goBlkE | apply goSeqE | apply goLoopR | apply goLoopE | (apply goOp; (· (simp [*]; try exact rfl)); (· exact rfl)) | (apply goOp0; (· (simp [*]; try exact rfl)); (· exact rfl)) | (apply goYes; (· (simp [*]; done)); (· (simp [*]; try exact rfl)); (· exact rfl)) | (apply goNo; (· (simp [*]; done))) | (apply goNoU; (· (simp; exact rfl))) | (apply goIfT; (· (simp [*]; done))) | (apply goIfF; (· (simp [*]; done))) | (apply goIf; (· (simp; exact rfl)); (· with_reducible exact rfl)) | (apply goSplit; (· (simp; exact rfl)); (· with_reducible exact rfl)) | (apply goIfQ; (· (simp; exact rfl)); (· exact rfl)) | (apply goSplitQ; (· (simp; exact rfl)); (· exact rfl)) | (apply goBlkX; (· rfl)) | intro _)
        all_goals replace hgo := hgo.out
        all_goals (try simp only [Bool.not_eq_true', decide_eq_false_iff_not, Bool.not_eq_false', decide_eq_true_eq] at *)
        all_goals first
          | (refine goEnd hw (Pre.refl _) (by simp) (by simp [rs129]; exact rfl) rfl ?_; rw [← hgo]; simp [sameGo, nth_drop, hd, hnil, *]; done)
          | (refine goLoopN (l.length - (i + 1)) (by omega) ⟨rfl, i + 1, rfl, by omega, rfl, rfl, rfl, rfl, ?_⟩; rw [← hgo]; simp [sameGo, nth_drop, hd, *])
  · cases hv
@[simp] theorem F129_at (a b : AV) (H : Hp) : F129 [a, b] H = (ints H a).bind fun l => (ints H b).map fun m => .bool (sameL l m) := rfl

def F69 (args : List AV) (H : Hp) : Option AV := match args with
  | [a, b] => (ints H a).bind fun l => (ints H b).map fun m => .bool (sameL l m)
  | _ => none
theorem snd69 : Sound Try.prog 69 (FSem.pure F69).run := by
  refine sound_of hT (EOK_cons snd129 (EOK_nil _)) mixed A69 Try.func69 hb69 (by kernel_rfl) (by kernel_rfl) (by kernel_rfl) (by kernel_rfl) sh69 2 (by kernel_rfl) rs69 hr69 ?_
  intro args H r H' hw h
  obtain ⟨rfl, hv⟩ := pureAt h
  clear h
  unfold F69 at hv
  split at hv
  · rename_i v u
    obtain ⟨l, hl, hv⟩ := Option.bind_eq_some_iff.1 hv
    obtain ⟨q, hq, hv⟩ := Option.map_eq_some_iff.1 hv
    cases hv
    refine ⟨rfl, go ?_⟩
    unfold c69
    simp only [argSl]
    repeat' (first | apply goSeq | apply goReg | apply goSeqN | apply goSeqR | apply goSkip | apply goRet | apply goNil | apply goBlock | apply goExit | apply goBlkN | apply goBlkR | apply goBlkE | apply goSeqE | apply goLoopR | apply goLoopE | (apply goOp; (· (simp [*]; try exact rfl)); (· exact rfl)) | (apply goOp0; (· (simp [*]; try exact rfl)); (· exact rfl)) | (apply goYes; (· (simp [*]; done)); (· (simp [*]; try exact rfl)); (· exact rfl)) | (apply goNo; (· (simp [*]; done))) | (apply goNoU; (· (simp; exact rfl))) | (apply goIfT; (· (simp [*]; done))) | (apply goIfF; (· (simp [*]; done))) | (apply goIf; (· (simp; exact rfl)); (· with_reducible exact rfl)) | (apply goSplit; (· (simp; exact rfl)); (· with_reducible exact rfl)) | (apply goIfQ; (· (simp; exact rfl)); (· exact rfl)) | (apply goSplitQ; (· (simp; exact rfl)); (· exact rfl)) | (apply goBlkX; (· rfl)) | intro _)
    exact goEnd hw (Pre.refl _) (by simp) (by simp [rs69]; exact rfl) rfl rfl
  · cases hv
@[simp] theorem F69_at (a b : AV) (H : Hp) : F69 [a, b] H = (ints H a).bind fun l => (ints H b).map fun m => .bool (sameL l m) := rfl

/-- Only the axes that a spec has. -/
def maskL (sp : List Int) : Nat → List Int → List Int
  | _, [] => []
  | i, a :: l => (if contains sp i = true then a else 0) :: maskL sp (i + 1) l
/-- The least device that has the same part. -/
def firstL (sz sp : List Int) (d : Int) : Int := if specOK sz sp sp.length = false ∨ d < 0 ∨ devs sz ≤ d then -1 else ofL sz (maskL sp 0 (meshAt sz d))
def F66 (args : List AV) (H : Hp) : Option AV := match args with
  | [a, b, .int .i64 d] => (ints H a).bind fun sz => (ints H b).map fun sp => .int .i64 (firstL sz sp d)
  | _ => none
set_option maxHeartbeats 1000000 in
theorem snd66 : Sound Try.prog 66 (FSem.pure F66).run := by
  refine sound_of hT (EOK_cons snd63 (EOK_cons snd88 (EOK_cons snd123 (EOK_cons snd125 (EOK_cons snd126 (EOK_nil _)))))) mixed A66 Try.func66 hb66 (by kernel_rfl) (by kernel_rfl) (by kernel_rfl) (by kernel_rfl) sh66 3 (by kernel_rfl) rs66 hr66 ?_
  intro args H r H' hw h
  obtain ⟨rfl, hv⟩ := pureAt h
  clear h
  unfold F66 at hv
  split at hv
  · rename_i a v d
    obtain ⟨sz, hsz, hv⟩ := Option.bind_eq_some_iff.1 hv
    obtain ⟨l, hl, hv⟩ := Option.map_eq_some_iff.1 hv
    cases hv
    have hlen := alenS_ints hl
    simp only [← alen22] at hlen
    refine ⟨rfl, go ?_⟩
    unfold c66
    simp only [argSl]
    rcases hsp : specOK sz l l.length with _ | _
    · repeat' (first | apply goSeq | apply goReg | apply goSeqN | apply goSeqR | apply goSkip | apply goRet | apply goNil | apply goBlock | apply goExit | apply goBlkN | apply goBlkR | apply goBlkE | apply goSeqE | apply goLoopR | apply goLoopE | (apply goOp; (· (simp [*]; try exact rfl)); (· exact rfl)) | (apply goOp0; (· (simp [*]; try exact rfl)); (· exact rfl)) | (apply goYes; (· (simp [*]; done)); (· (simp [*]; try exact rfl)); (· exact rfl)) | (apply goNo; (· (simp [*]; done))) | (apply goNoU; (· (simp; exact rfl))) | (apply goIfT; (· (simp [*]; done))) | (apply goIfF; (· (simp [*]; done))) | (apply goIf; (· (simp; exact rfl)); (· with_reducible exact rfl)) | (apply goSplit; (· (simp; exact rfl)); (· with_reducible exact rfl)) | (apply goIfQ; (· (simp; exact rfl)); (· exact rfl)) | (apply goSplitQ; (· (simp; exact rfl)); (· exact rfl)) | (apply goBlkX; (· rfl)) | intro _)
      refine goEnd hw (Pre.refl _) (by simp) (by simp [rs66]; exact rfl) rfl ?_
      simp [firstL, hsp]
    by_cases hd0 : d < 0
    · repeat' (first | apply goSeq | apply goReg | apply goSeqN | apply goSeqR | apply goSkip | apply goRet | apply goNil | apply goBlock | apply goExit | apply goBlkN | apply goBlkR | apply goBlkE | apply goSeqE | apply goLoopR | apply goLoopE | (apply goOp; (· (simp [*]; try exact rfl)); (· exact rfl)) | (apply goOp0; (· (simp [*]; try exact rfl)); (· exact rfl)) | (apply goYes; (· (simp [*]; done)); (· (simp [*]; try exact rfl)); (· exact rfl)) | (apply goNo; (· (simp [*]; done))) | (apply goNoU; (· (simp; exact rfl))) | (apply goIfT; (· (simp [*]; done))) | (apply goIfF; (· (simp [*]; done))) | (apply goIf; (· (simp; exact rfl)); (· with_reducible exact rfl)) | (apply goSplit; (· (simp; exact rfl)); (· with_reducible exact rfl)) | (apply goIfQ; (· (simp; exact rfl)); (· exact rfl)) | (apply goSplitQ; (· (simp; exact rfl)); (· exact rfl)) | (apply goBlkX; (· rfl)) | intro _)
      refine goEnd hw (Pre.refl _) (by simp) (by simp [rs66]; exact rfl) rfl ?_
      simp [firstL, hd0]
    by_cases hd1 : devs sz ≤ d
    · repeat' (first | apply goSeq | apply goReg | apply goSeqN | apply goSeqR | apply goSkip | apply goRet | apply goNil | apply goBlock | apply goExit | apply goBlkN | apply goBlkR | apply goBlkE | apply goSeqE | apply goLoopR | apply goLoopE | (apply goOp; (· (simp [*]; try exact rfl)); (· exact rfl)) | (apply goOp0; (· (simp [*]; try exact rfl)); (· exact rfl)) | (apply goYes; (· (simp [*]; done)); (· (simp [*]; try exact rfl)); (· exact rfl)) | (apply goNo; (· (simp [*]; done))) | (apply goNoU; (· (simp; exact rfl))) | (apply goIfT; (· (simp [*]; done))) | (apply goIfF; (· (simp [*]; done))) | (apply goIf; (· (simp; exact rfl)); (· with_reducible exact rfl)) | (apply goSplit; (· (simp; exact rfl)); (· with_reducible exact rfl)) | (apply goIfQ; (· (simp; exact rfl)); (· exact rfl)) | (apply goSplitQ; (· (simp; exact rfl)); (· exact rfl)) | (apply goBlkX; (· rfl)) | intro _)
      refine goEnd hw (Pre.refl _) (by simp) (by simp [rs66]; exact rfl) rfl ?_
      simp [firstL, hd1]
    have hres : firstL sz l d = ofL sz (maskL l 0 (meshAt sz d)) := by simp [firstL, hsp, hd0, hd1]
    rw [hres]
    have h3 := (meshOK_pos (specOK_lt hsp).2.1).1
    have hml := meshAt_len sz d
    have e123 : F123 [a, .int .i64 d] H' = some (mkF H' (meshAt sz d)) := by
      simp only [F123, hsz, Option.map_some]
      rw [if_neg (by omega)]
    generalize meshAt sz d = M at *
    have hMe := mkF_ext hw M
    have hMo := mkF_own H' M
    have hMl : alen T 22 (mkF H' M).1 = some (.int .i64 M.length) := by rw [alen22]; rfl
    clear hres
    generalize hr1 : mkF H' M = r1 at *
    obtain ⟨u0, H1⟩ := r1
    simp only at hMe hMo hMl
    replace hMo := Hide.mk hMo
    replace hml := Hide.mk hml
    repeat' (first | apply goSeq | apply goReg | apply goSeqN | apply goSeqR | apply goSkip | apply goRet | apply goNil | apply goBlock | apply goExit | apply goBlkN | apply goBlkR | apply goBlkE | apply goSeqE | apply goLoopR | apply goLoopE | (apply goOp; (· (simp [*]; try exact rfl)); (· exact rfl)) | (apply goOp0; (· (simp [*]; try exact rfl)); (· exact rfl)) | (apply goYes; (· (simp [*]; done)); (· (simp [*]; try exact rfl)); (· exact rfl)) | (apply goNo; (· (simp [*]; done))) | (apply goNoU; (· (simp; exact rfl))) | (apply goIfT; (· (simp [*]; done))) | (apply goIfF; (· (simp [*]; done))) | (apply goIf; (· (simp; exact rfl)); (· with_reducible exact rfl)) | (apply goSplit; (· (simp; exact rfl)); (· with_reducible exact rfl)) | (apply goIfQ; (· (simp; exact rfl)); (· exact rfl)) | (apply goSplitQ; (· (simp; exact rfl)); (· exact rfl)) | (apply goBlkX; (· rfl)) | intro _)
    refine goLoop (fun m s1 H2 => Ext H' H2 ∧ ∃ (i : Nat) (out : List Int), m = M.length - i ∧ i ≤ M.length ∧ get s1 0 = a ∧ get s1 1 = v ∧ get s1 7 = u0 ∧ get s1 29 = .int .i64 M.length ∧ get s1 30 = .int .i64 i ∧ OwnF H' H2 u0 out ∧ out.length = M.length ∧ out.take i ++ maskL l i (out.drop i) = maskL l 0 M) M.length ?_ ?_
    · exact ⟨hMe, 0, M, rfl, Nat.zero_le _, rfl, rfl, rfl, rfl, rfl, hMo.out, rfl, by simp⟩
    · clear e123 hMe hMo hMl hr1
      rintro m s1 H2 ⟨he, i, out, hmm, hi, g1, g2, g3, g4, g5, ho, hol, hgo⟩
      simp only [cut_cons, cut_nil, g1, g2, g3, g4, g5]
      clear g1 g2 g3 g4 g5
      have hi0 : (0 : Int) ≤ i := Int.natCast_nonneg i
      have hw1 : w ((i : Int) + 1) = ((i + 1 : Nat) : Int) := w_id (by have := hml.out; omega)
      have hiu := ints_of_ownF ho (by have := hml.out; omega)
      have hixu := aidxS_ints hiu .i64
      simp only [← aidx22, hol] at hixu
      have hsz2 := ints_ext he.pre hsz
      have hl2 := ints_ext he.pre hl
      have hd := fun h => drop_nth out i h
      have ht := fun h => take_nth out i h
      clear hsz hl
      replace hd := Hide.mk hd
      replace ht := Hide.mk ht
      replace ho := Hide.mk ho
      replace hgo := Hide.mk hgo
      replace hol := Hide.mk hol
      rcases hc : contains l i with _ | _
      · have hc' := Hide.mk hc
        repeat' (first | apply goSeq | apply goReg | apply goSeqN | apply goSeqR | apply goSkip | apply goRet | apply goNil | apply goBlock | apply goExit | apply goBlkN | apply goBlkR | apply goBlkE | apply goSeqE | apply goLoopR | apply goLoopE | (apply goOp; (· (simp [*]; try exact rfl)); (· exact rfl)) | (apply goOp0; (· (simp [*]; try exact rfl)); (· exact rfl)) | (apply goYes; (· (simp [*]; done)); (· (simp [*]; try exact rfl)); (· exact rfl)) | (apply goNo; (· (simp [*]; done))) | (apply goNoU; (· (simp; exact rfl))) | (apply goIfT; (· (simp [*]; done))) | (apply goIfF; (· (simp [*]; done))) | (apply goIf; (· (simp; exact rfl)); (· with_reducible exact rfl)) | (apply goSplit; (· (simp; exact rfl)); (· with_reducible exact rfl)) | (apply goIfQ; (· (simp; exact rfl)); (· exact rfl)) | (apply goSplitQ; (· (simp; exact rfl)); (· exact rfl)) | (apply goBlkX; (· rfl)) | intro _)
        · rename_i hil
          have hol := hol.out
          obtain ⟨H3, e, ho3, he3⟩ := store_own hw he ho.out i (by omega) 0
          refine goOp0 (v := .bad) (H' := H3) rfl (by simp [e]) ?_
          clear e
          replace ho3 := Hide.mk ho3
          have hol' := Hide.mk hol
          clear hol
          repeat' (first | apply goSeq | apply goReg | apply goSeqN | apply goSeqR | apply goSkip | apply goRet | apply goNil | apply goBlock | apply goExit | apply goBlkN | apply goBlkR | apply goBlkE | apply goSeqE | apply goLoopR | apply goLoopE | (apply goOp; (· (simp [*]; try exact rfl)); (· exact rfl)) | (apply goOp0; (· (simp [*]; try exact rfl)); (· exact rfl)) | (apply goYes; (· (simp [*]; done)); (· (simp [*]; try exact rfl)); (· exact rfl)) | (apply goNo; (· (simp [*]; done))) | (apply goNoU; (· (simp; exact rfl))) | (apply goIfT; (· (simp [*]; done))) | (apply goIfF; (· (simp [*]; done))) | (apply goIf; (· (simp; exact rfl)); (· with_reducible exact rfl)) | (apply goSplit; (· (simp; exact rfl)); (· with_reducible exact rfl)) | (apply goIfQ; (· (simp; exact rfl)); (· exact rfl)) | (apply goSplitQ; (· (simp; exact rfl)); (· exact rfl)) | (apply goBlkX; (· rfl)) | intro _)
          have hol := hol'.out
          refine goLoopN (M.length - (i + 1)) (by omega) ⟨he3, i + 1, out.set i 0, rfl, by omega, rfl, rfl, rfl, rfl, rfl, ho3.out, by simp [hol], ?_⟩
          rw [take_set1 out i 0 (by omega), ← hgo.out, hd.out (by omega)]
          simp [maskL, hc, List.drop_set]
        · rename_i hil
          refine goEnd hw he.pre (by simp) (by simp [rs66]; exact rfl) rfl ?_
          have h1 := hgo.out
          have hol := hol.out
          rw [List.drop_of_length_le (by omega), List.take_of_length_le (by omega)] at h1
          simp only [maskL, List.append_nil] at h1
          rw [← h1]; rfl
      · repeat' (first | apply goSeq | apply goReg | apply goSeqN | apply goSeqR | apply goSkip | apply goRet | apply goNil | apply goBlock | apply goExit | apply goBlkN | apply goBlkR | apply goBlkE | apply goSeqE | apply goLoopR | apply goLoopE | (apply goOp; (· (simp [*]; try exact rfl)); (· exact rfl)) | (apply goOp0; (· (simp [*]; try exact rfl)); (· exact rfl)) | (apply goYes; (· (simp [*]; done)); (· (simp [*]; try exact rfl)); (· exact rfl)) | (apply goNo; (· (simp [*]; done))) | (apply goNoU; (· (simp; exact rfl))) | (apply goIfT; (· (simp [*]; done))) | (apply goIfF; (· (simp [*]; done))) | (apply goIf; (· (simp; exact rfl)); (· with_reducible exact rfl)) | (apply goSplit; (· (simp; exact rfl)); (· with_reducible exact rfl)) | (apply goIfQ; (· (simp; exact rfl)); (· exact rfl)) | (apply goSplitQ; (· (simp; exact rfl)); (· exact rfl)) | (apply goBlkX; (· rfl)) | intro _)
        · rename_i hil
          have hol := hol.out
          refine goLoopN (M.length - (i + 1)) (by omega) ⟨he, i + 1, out, rfl, by omega, rfl, rfl, rfl, rfl, rfl, ho.out, hol, ?_⟩
          rw [← hgo.out, ht.out (by omega), hd.out (by omega)]
          simp [maskL, hc]
        · rename_i hil
          refine goEnd hw he.pre (by simp) (by simp [rs66]; exact rfl) rfl ?_
          have h1 := hgo.out
          have hol := hol.out
          rw [List.drop_of_length_le (by omega), List.take_of_length_le (by omega)] at h1
          simp only [maskL, List.append_nil] at h1
          rw [← h1]; rfl
  · cases hv
@[simp] theorem F66_at (a b : AV) (d : Int) (H : Hp) : F66 [a, b, .int .i64 d] H = (ints H a).bind fun sz => (ints H b).map fun sp => .int .i64 (firstL sz sp d) := rfl
end Go.Proofs.Ytokadkakmhfdeaa.Pq
