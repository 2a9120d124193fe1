/- Walks: parts and copies of the program; where devices are, and which one is there. -/
import Derived.Test.YtokadkakmhfdeaaPqX1
import Derived.Test.YtokadkakmhfdeaaPqWB
import Derived.Test.YtokadkakmhfdeaaPqC5
set_option linter.unusedVariables false
set_option linter.unusedSimpArgs false
namespace Go.Proofs.Ytokadkakmhfdeaa.Pq
open Go.RowKit

def F64 (args : List AV) (H : Hp) : Option (AV × Hp) := match args with
  | [a, b] => (ints H a).bind fun sz => (ints H b).bind fun sp => if sp.length < 1099511627776 then some (if specOK sz sp sp.length = true then mkF H (sp.map (partOf sz)) else (.nilS, H)) else none
  | _ => none
set_option maxHeartbeats 1000000 in
theorem snd64 : Sound Try.prog 64 (FSem.eff F64).run := by
  refine sound_of hT (EOK_cons snd63 (EOK_nil _)) mixed A64 Try.func64 hb64 (by kernel_rfl) (by kernel_rfl) (by kernel_rfl) (by kernel_rfl) sh64 2 (by kernel_rfl) rs64 hr64 ?_
  intro args H r H' hw h
  have hv : F64 args H = some (r, H') := h
  clear h
  unfold F64 at hv
  split at hv
  · rename_i a v
    obtain ⟨sz, hsz, hv⟩ := Option.bind_eq_some_iff.1 hv
    obtain ⟨l, hl, hv⟩ := Option.bind_eq_some_iff.1 hv
    split at hv
    rotate_left
    · cases hv
    rename_i hmax
    replace hv := Option.some.inj hv
    have hlen := alenS_ints hl
    have hix := aidxS_ints hl .i64
    have hld := fun {H1 : Hp} (he : Pre H H1) => aload_nth T3 rfl (ints_ext he hl)
    have hix2 := aidxS_ints hsz .i64
    have hld2 := fun {H1 : Hp} (he : Pre H H1) => aload_nth T3 rfl (ints_ext he hsz)
    refine ⟨rfl, go ?_⟩
    unfold c64
    simp only [argSl]
    simp only [← aidx22, ← alen22] at hix hix2 hlen
    replace hv := Hide.mk hv
    repeat' (first | apply goSeq | apply goReg | apply goSeqN | apply goSeqR | apply goSkip | apply goRet | apply goNil | apply goBlock | apply goExit | apply goBlkN | apply goBlkR | apply goBlkE | apply goSeqE | apply goLoopR | apply goLoopE | (apply goOp; (· (simp [*]; try exact rfl)); (· exact rfl)) | (apply goOp0; (· (simp [*]; try exact rfl)); (· exact rfl)) | (apply goYes; (· (simp [*]; done)); (· (simp [*]; try exact rfl)); (· exact rfl)) | (apply goNo; (· (simp [*]; done))) | (apply goNoU; (· (simp; exact rfl))) | (apply goIfT; (· (simp [*]; done))) | (apply goIfF; (· (simp [*]; done))) | (apply goIf; (· (simp; exact rfl)); (· with_reducible exact rfl)) | (apply goSplit; (· (simp; exact rfl)); (· with_reducible exact rfl)) | (apply goIfQ; (· (simp; exact rfl)); (· exact rfl)) | (apply goSplitQ; (· (simp; exact rfl)); (· exact rfl)) | (apply goBlkX; (· rfl)) | intro _)
    · rename_i h1
      replace hv := hv.out
      have h1' : ¬ specOK sz l l.length = true := by simpa using h1
      rw [if_neg h1'] at hv
      exact goEndS (l := []) hw (Ext.refl hw) (.inl ⟨rfl, rfl⟩) (by simp) (by simp [rs64]) rfl hv
    · rename_i h1
      have h1' : specOK sz l l.length = true := by simpa using h1
      replace hv := hv.out
      rw [if_pos h1'] at hv
      obtain ⟨_, _, hall⟩ := specOK_lt h1'
      obtain ⟨u, H1, e, ho, he⟩ := make_own (Ext.refl hw) l.length (by omega)
      refine goOp (v := u) (H' := H1) rfl (by simp; exact e) ?_
      replace hv := Hide.mk hv
      clear h1 h1'
      repeat' (first | apply goSeq | apply goReg | apply goSeqN | apply goSeqR | apply goSkip | apply goRet | apply goNil | apply goBlock | apply goExit | apply goBlkN | apply goBlkR | apply goBlkE | apply goSeqE | apply goLoopR | apply goLoopE | (apply goOp; (· (simp [*]; try exact rfl)); (· exact rfl)) | (apply goOp0; (· (simp [*]; try exact rfl)); (· exact rfl)) | (apply goYes; (· (simp [*]; done)); (· (simp [*]; try exact rfl)); (· exact rfl)) | (apply goNo; (· (simp [*]; done))) | (apply goNoU; (· (simp; exact rfl))) | (apply goIfT; (· (simp [*]; done))) | (apply goIfF; (· (simp [*]; done))) | (apply goIf; (· (simp; exact rfl)); (· with_reducible exact rfl)) | (apply goSplit; (· (simp; exact rfl)); (· with_reducible exact rfl)) | (apply goIfQ; (· (simp; exact rfl)); (· exact rfl)) | (apply goSplitQ; (· (simp; exact rfl)); (· exact rfl)) | (apply goBlkX; (· rfl)) | intro _)
      clear e
      refine goLoop (fun m s1 H1 => Ext H H1 ∧ ∃ (i : Nat) (out : List Int) (u : AV), m = l.length - i ∧ i ≤ l.length ∧ get s1 0 = a ∧ get s1 5 = u ∧ get s1 17 = v ∧ get s1 18 = .int .i64 l.length ∧ get s1 19 = .int .i64 i ∧ OwnF H H1 u out ∧ out.length = l.length ∧ out.take i = (l.take i).map (partOf sz)) l.length ?_ ?_
      · exact ⟨he, 0, _, u, rfl, Nat.zero_le _, rfl, rfl, rfl, rfl, rfl, ho, by simp, by simp⟩
      · clear he ho
        rintro m s1 H1 ⟨he, i, out, u, hmm, hi, g1, g2, g3, g4, g5, ho, hol, hgo⟩
        simp only [cut_cons, cut_nil, g1, g2, g3, g4, g5]
        clear g1 g2 g3 g4 g5
        have hi0 : (0 : Int) ≤ i := Int.natCast_nonneg i
        have hw1 : w ((i : Int) + 1) = ((i + 1 : Nat) : Int) := w_id (by omega)
        have hixu := aidxS_ints (ints_of_ownF ho (by omega)) .i64
        simp only [← aidx22, hol] at hixu
        have hl1 := hld he.pre
        have hlt := hall i
        have hm := map_take (partOf sz) l i
        replace ho := Hide.mk ho
        replace hgo := Hide.mk hgo
        replace hm := Hide.mk hm
        replace hlt := Hide.mk hlt
        replace hol := Hide.mk hol
        repeat' (first | apply goSeq | apply goReg | apply goSeqN | apply goSeqR | apply goSkip | apply goRet | apply goNil | apply goBlock | apply goExit | apply goBlkN | apply goBlkR | apply goBlkE | apply goSeqE | apply goLoopR | apply goLoopE | (apply goOp; (· (simp [*]; try exact rfl)); (· exact rfl)) | (apply goOp0; (· (simp [*]; try exact rfl)); (· exact rfl)) | (apply goYes; (· (simp [*]; done)); (· (simp [*]; try exact rfl)); (· exact rfl)) | (apply goNo; (· (simp [*]; done))) | (apply goNoU; (· (simp; exact rfl))) | (apply goIfT; (· (simp [*]; done))) | (apply goIfF; (· (simp [*]; done))) | (apply goIf; (· (simp; exact rfl)); (· with_reducible exact rfl)) | (apply goSplit; (· (simp; exact rfl)); (· with_reducible exact rfl)) | (apply goIfQ; (· (simp; exact rfl)); (· exact rfl)) | (apply goSplitQ; (· (simp; exact rfl)); (· exact rfl)) | (apply goBlkX; (· rfl)) | intro _)
        · rename_i hil
          have hol := hol.out
          obtain ⟨H2, e, ho2, he2⟩ := store_own hw he ho.out i (by omega) 1
          refine goOp0 (v := .bad) (H' := H2) rfl (by simp [e]) ?_
          have hl2 := hld2 he2.pre
          have hr := hlt.out hil
          clear e hl1
          by_cases hk : nth l i = -1
          · replace ho2 := Hide.mk ho2
            have hol' := Hide.mk hol
            clear hol
            repeat' (first | apply goSeq | apply goReg | apply goSeqN | apply goSeqR | apply goSkip | apply goRet | apply goNil | apply goBlock | apply goExit | apply goBlkN | apply goBlkR | apply goBlkE | apply goSeqE | apply goLoopR | apply goLoopE | (apply goOp; (· (simp [*]; try exact rfl)); (· exact rfl)) | (apply goOp0; (· (simp [*]; try exact rfl)); (· exact rfl)) | (apply goYes; (· (simp [*]; done)); (· (simp [*]; try exact rfl)); (· exact rfl)) | (apply goNo; (· (simp [*]; done))) | (apply goNoU; (· (simp; exact rfl))) | (apply goIfT; (· (simp [*]; done))) | (apply goIfF; (· (simp [*]; done))) | (apply goIf; (· (simp; exact rfl)); (· with_reducible exact rfl)) | (apply goSplit; (· (simp; exact rfl)); (· with_reducible exact rfl)) | (apply goIfQ; (· (simp; exact rfl)); (· exact rfl)) | (apply goSplitQ; (· (simp; exact rfl)); (· exact rfl)) | (apply goBlkX; (· rfl)) | intro _)
            refine goLoopN (l.length - (i + 1)) (by omega) ⟨he2, i + 1, out.set i 1, u, rfl, by omega, rfl, rfl, rfl, rfl, rfl, ho2.out, by simp [hol'.out], ?_⟩
            rw [take_set1 out i 1 (by rw [hol'.out]; exact hil), hm.out hil, hgo.out]
            simp [partOf, hk]
          · have hk0 : 0 ≤ nth l i := by omega
            have hk1 : nth l i < sz.length := hr.2
            obtain ⟨H3, e, ho3, he3⟩ := store_own hw he2 ho2 i (by simp; omega) (nth sz (nth l i))
            replace ho2 := Hide.mk ho2
            replace ho3 := Hide.mk ho3
            have hol' := Hide.mk hol
            clear hol hr
            repeat' (first | apply goSeq | apply goReg | apply goSeqN | apply goSeqR | apply goSkip | apply goRet | apply goNil | apply goBlock | apply goExit | apply goBlkN | apply goBlkR | apply goBlkE | apply goSeqE | apply goLoopR | apply goLoopE | (apply goOp; (· (simp [*]; try exact rfl)); (· exact rfl)) | (apply goOp0; (· (simp [*]; try exact rfl)); (· exact rfl)) | (apply goYes; (· (simp [*]; done)); (· (simp [*]; try exact rfl)); (· exact rfl)) | (apply goNo; (· (simp [*]; done))) | (apply goNoU; (· (simp; exact rfl))) | (apply goIfT; (· (simp [*]; done))) | (apply goIfF; (· (simp [*]; done))) | (apply goIf; (· (simp; exact rfl)); (· with_reducible exact rfl)) | (apply goSplit; (· (simp; exact rfl)); (· with_reducible exact rfl)) | (apply goIfQ; (· (simp; exact rfl)); (· exact rfl)) | (apply goSplitQ; (· (simp; exact rfl)); (· exact rfl)) | (apply goBlkX; (· rfl)) | intro _)
            refine goLoopN (l.length - (i + 1)) (by omega) ⟨he3, i + 1, (out.set i 1).set i (nth sz (nth l i)), u, rfl, by omega, rfl, rfl, rfl, rfl, rfl, ho3.out, by simp [hol'.out], ?_⟩
            rw [List.set_set, take_set1 out i _ (by rw [hol'.out]; exact hil), hm.out hil, hgo.out]
            simp [partOf, hk0]
        · rename_i hil
          have h1 : out.take i = out := List.take_of_length_le (by have := hol.out; omega)
          have h2 : l.take i = l := List.take_of_length_le (by omega)
          refine goEndF hw he ho.out (by simp) (by simp [rs64]) rfl ?_
          rw [← hv.out, ← h1, hgo.out, h2]
  · cases hv

/-- The program's copies. -/
def copies (sz sp : List Int) : Int := if specOK sz sp sp.length = true then divW (devs sz) (sp.map (partOf sz)) else 0
theorem copies_eq (sz sp : List Int) : rCopies sz sp = copies sz sp := by
  simp only [rCopies, copies, rSpecOK_eq, rOK_eq, rDevs_eq, rParts]
  by_cases h : specOK sz sp sp.length = true
  · have := (specOK_lt h).2.1
    simp [h, this]
  · simp [h]
def F65 (args : List AV) (H : Hp) : Option AV := match args with
  | [a, b] => (ints H a).bind fun sz => (ints H b).bind fun sp => if sp.length < 1099511627776 then some (.int .i64 (copies sz sp)) else none
  | _ => none
set_option maxHeartbeats 1000000 in
theorem snd65 : Sound Try.prog 65 (FSem.pure F65).run := by
  refine sound_of hT (EOK_cons snd63 (EOK_cons snd64 (EOK_cons snd88 (EOK_nil _)))) mixed A65 Try.func65 hb65 (by kernel_rfl) (by kernel_rfl) (by kernel_rfl) (by kernel_rfl) sh65 2 (by kernel_rfl) rs65 hr65 ?_
  intro args H r H' hw h
  obtain ⟨rfl, hv⟩ := pureAt h
  clear h
  unfold F65 at hv
  split at hv
  · rename_i a v
    obtain ⟨sz, hsz, hv⟩ := Option.bind_eq_some_iff.1 hv
    obtain ⟨l, hl, hv⟩ := Option.bind_eq_some_iff.1 hv
    split at hv
    rotate_left
    · cases hv
    rename_i hmax
    replace hv : AV.int .i64 (copies sz l) = r := Option.some.inj hv
    subst hv
    have hlen := alenS_ints hl
    have hP := mkF_ext hw (l.map (partOf sz))
    have hpi := ints_of_ownF (mkF_own H' (l.map (partOf sz))) (by simp; omega)
    have hlen3 := alenS_ints hpi
    have hix3 := aidxS_ints hpi .i64
    have hld3 := aload_nth T3 rfl hpi
    have e64 : specOK sz l l.length = true → F64 [a, v] H' = some ((mkF H' (l.map (partOf sz))).1, (mkF H' (l.map (partOf sz))).2) := by
      intro h
      simp only [F64, hsz, hl, Option.bind_some]
      rw [if_pos hmax, if_pos h]
    refine ⟨rfl, go ?_⟩
    unfold c65
    simp only [argSl]
    simp only [← aidx22, ← alen22] at hix3 hlen hlen3
    replace hP := Hide.mk hP
    replace hpi := Hide.mk hpi
    rcases hsp : specOK sz l l.length with _ | _
    · clear e64
      repeat' (first | apply goSeq | apply goReg | apply goSeqN | apply goSeqR | apply goSkip | apply goRet | apply goNil | apply goBlock | apply goExit | apply goBlkN | apply goBlkR | apply goBlkE | apply goSeqE | apply goLoopR | apply goLoopE | (apply goOp; (· (simp [*]; try exact rfl)); (· exact rfl)) | (apply goOp0; (· (simp [*]; try exact rfl)); (· exact rfl)) | (apply goYes; (· (simp [*]; done)); (· (simp [*]; try exact rfl)); (· exact rfl)) | (apply goNo; (· (simp [*]; done))) | (apply goNoU; (· (simp; exact rfl))) | (apply goIfT; (· (simp [*]; done))) | (apply goIfF; (· (simp [*]; done))) | (apply goIf; (· (simp; exact rfl)); (· with_reducible exact rfl)) | (apply goSplit; (· (simp; exact rfl)); (· with_reducible exact rfl)) | (apply goIfQ; (· (simp; exact rfl)); (· exact rfl)) | (apply goSplitQ; (· (simp; exact rfl)); (· exact rfl)) | (apply goBlkX; (· rfl)) | intro _)
      refine goEnd hw (Pre.refl _) (by simp) (by simp [rs65]; exact rfl) rfl ?_
      simp [copies, hsp]
    · have hres : copies sz l = divW (devs sz) (l.map (partOf sz)) := by simp [copies, hsp]
      rw [hres]
      have e64 := e64 hsp
      have h1 : rSpecOK sz l l.length = true := by rw [rSpecOK_eq]; exact hsp
      have h2 : rOK sz = true := by rw [rOK_eq]; exact (specOK_lt hsp).2.1
      have hpos := (rParts_pos h2 h1).2
      rw [(rParts_pos h2 h1).1] at hpos
      clear h1 h2 hres
      generalize hL : l.map (partOf sz) = L at *
      replace hL := Hide.mk hL
      repeat' (first | apply goSeq | apply goReg | apply goSeqN | apply goSeqR | apply goSkip | apply goRet | apply goNil | apply goBlock | apply goExit | apply goBlkN | apply goBlkR | apply goBlkE | apply goSeqE | apply goLoopR | apply goLoopE | (apply goOp; (· (simp [*]; try exact rfl)); (· exact rfl)) | (apply goOp0; (· (simp [*]; try exact rfl)); (· exact rfl)) | (apply goYes; (· (simp [*]; done)); (· (simp [*]; try exact rfl)); (· exact rfl)) | (apply goNo; (· (simp [*]; done))) | (apply goNoU; (· (simp; exact rfl))) | (apply goIfT; (· (simp [*]; done))) | (apply goIfF; (· (simp [*]; done))) | (apply goIf; (· (simp; exact rfl)); (· with_reducible exact rfl)) | (apply goSplit; (· (simp; exact rfl)); (· with_reducible exact rfl)) | (apply goIfQ; (· (simp; exact rfl)); (· exact rfl)) | (apply goSplitQ; (· (simp; exact rfl)); (· exact rfl)) | (apply goBlkX; (· rfl)) | intro _)
      refine goLoop (fun m s1 H1 => H1 = (mkF H' L).2 ∧ ∃ (i : Nat) (n : Int), m = L.length - i ∧ i ≤ L.length ∧ get s1 5 = .int .i64 n ∧ get s1 18 = (mkF H' L).1 ∧ get s1 19 = .int .i64 L.length ∧ get s1 20 = .int .i64 i ∧ divW n (L.drop i) = divW (devs sz) L) L.length ?_ ?_
      · exact ⟨rfl, 0, _, rfl, Nat.zero_le _, rfl, rfl, rfl, rfl, rfl⟩
      · rintro m s1 H1 ⟨rfl, i, n, hmm, hi, g1, g2, g3, g4, hgo⟩
        simp only [cut_cons, cut_nil, g1, g2, g3, g4]
        clear g1 g2 g3 g4 e64
        have hi0 : (0 : Int) ≤ i := Int.natCast_nonneg i
        have hw1 : w ((i : Int) + 1) = ((i + 1 : Nat) : Int) := w_id (by have := congrArg List.length hL.out; simp at this; omega)
        have hd := fun h => drop_nth L i h
        have hnil : ¬ i < L.length → L.drop i = [] := fun h => List.drop_of_length_le (by omega)
        have hp0 : i < L.length → ¬ nth L i = 0 := fun h => by have := hpos i h; omega
        replace hgo := Hide.mk hgo
        repeat' (first | apply goSeq | apply goReg | apply goSeqN | apply goSeqR | apply goSkip | apply goRet | apply goNil | apply goBlock | apply goExit | apply goBlkN | apply goBlkR | apply goBlkE | apply goSeqE | apply goLoopR | apply goLoopE | (apply goOp; (· (simp [*]; try exact rfl)); (· exact rfl)) | (apply goOp0; (· (simp [*]; try exact rfl)); (· exact rfl)) | (apply goYes; (· (simp [*]; done)); (· (simp [*]; try exact rfl)); (· exact rfl)) | (apply goNo; (· (simp [*]; done))) | (apply goNoU; (· (simp; exact rfl))) | (apply goIfT; (· (simp [*]; done))) | (apply goIfF; (· (simp [*]; done))) | (apply goIf; (· (simp; exact rfl)); (· with_reducible exact rfl)) | (apply goSplit; (· (simp; exact rfl)); (· with_reducible exact rfl)) | (apply goIfQ; (· (simp; exact rfl)); (· exact rfl)) | (apply goSplitQ; (· (simp; exact rfl)); (· exact rfl)) | (apply goBlkX; (· rfl)) | intro _)
        all_goals replace hgo := hgo.out
        all_goals first
          | (refine goEnd hw hP.out.pre (by simp) (by simp [rs65]; exact rfl) rfl ?_; rw [← hgo]; simp [divW, hd, hnil, *]; done)
          | (refine goLoopN (L.length - (i + 1)) (by omega) ⟨rfl, i + 1, _, rfl, by omega, rfl, rfl, rfl, rfl, ?_⟩; rw [← hgo]; simp [divW, hd, *])
  · cases hv
@[simp] theorem F65_at (a b : AV) (H : Hp) : F65 [a, b] H = (ints H a).bind fun sz => (ints H b).bind fun sp => if sp.length < 1099511627776 then some (.int .i64 (copies sz sp)) else none := rfl
end Go.Proofs.Ytokadkakmhfdeaa.Pq
