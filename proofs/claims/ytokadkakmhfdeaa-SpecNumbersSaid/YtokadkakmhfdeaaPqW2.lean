/- Walks: meshes, shapes, specs. -/
import Derived.Test.YtokadkakmhfdeaaPqC2
import Derived.Test.YtokadkakmhfdeaaPqW1
set_option linter.unusedVariables false
set_option linter.unusedSimpArgs false
namespace Go.Proofs.Ytokadkakmhfdeaa.Pq
open Go.RowKit

@[simp] theorem F89_at (v : AV) (H : Hp) : F89 [v] H = (ints H v).map fun l => .bool (meshOK l) := rfl
theorem xdo_slice22 {E : Env} {sh : Bool} {s : Sl} {H : Hp} (x lo hi mx) : xdo E T sh (.slice 22 x lo hi mx) s H = (aslice 1 (ev s x) (lo.map (ev s)) (hi.map (ev s)) (mx.map (ev s))).map fun v => (v, H) := by
  simp [xdo, aop, D22, T3]

def prodW : Int → List Int → Int
  | n, [] => n
  | n, k :: l => prodW (w (n * k)) l
def devs (l : List Int) : Int := if meshOK l = true then prodW 1 l else 0
def F88 (args : List AV) (H : Hp) : Option AV := match args with
  | [v] => (ints H v).map fun l => .int .i64 (devs l)
  | _ => none
theorem snd88 : Sound Try.prog 88 (FSem.pure F88).run := by
  refine sound_of hT (EOK_cons snd89 (EOK_nil _)) mixed A88 Try.func88 hb88 (by kernel_rfl) (by kernel_rfl) (by kernel_rfl) (by kernel_rfl) sh88 1 (by kernel_rfl) rs88 hr88 ?_
  intro args H r H' hw h
  obtain ⟨rfl, hv⟩ := pureAt h
  clear h
  unfold F88 at hv
  split at hv
  · rename_i v
    obtain ⟨l, hl, hv⟩ := Option.map_eq_some_iff.1 hv
    cases hv
    have hlen := alenS_ints hl
    have hb := ints_len hl
    have hix := aidxS_ints hl .i64
    have hld := aload_nth T3 rfl hl
    refine ⟨rfl, go ?_⟩
    unfold c88
    simp only [argSl]
    simp only [← aidx22, ← alen22] at hix hlen
    repeat' (first | apply goSeq | apply goReg | apply goSeqN | apply goSeqR | apply goSkip | apply goRet | apply goNil | apply goBlock | apply goExit | apply goBlkN | apply goBlkR | apply goBlkE | apply goSeqE | apply goLoopR | apply goLoopE | (apply goOp; (· (simp [*]; try exact rfl)); (· exact rfl)) | (apply goOp0; (· (simp [*]; try exact rfl)); (· exact rfl)) | (apply goYes; (· (simp [*]; done)); (· (simp [*]; try exact rfl)); (· exact rfl)) | (apply goNo; (· (simp [*]; done))) | (apply goNoU; (· (simp; exact rfl))) | (apply goIfT; (· (simp [*]; done))) | (apply goIfF; (· (simp [*]; done))) | (apply goIf; (· (simp; exact rfl)); (· with_reducible exact rfl)) | (apply goSplit; (· (simp; exact rfl)); (· with_reducible exact rfl)) | (apply goIfQ; (· (simp; exact rfl)); (· exact rfl)) | (apply goSplitQ; (· (simp; exact rfl)); (· exact rfl)) | (apply goBlkX; (· rfl)) | intro _)
    · refine goEnd hw (Pre.refl _) (by simp) (by simp [rs88]; exact rfl) rfl ?_
      simp_all [devs]
    · rename_i hm
      have hm' : meshOK l = true := by simpa using hm
      refine goLoop (fun m s1 H1 => H1 = H' ∧ ∃ (i : Nat) (n : Int), m = l.length - i ∧ i ≤ l.length ∧ get s1 3 = .int .i64 n ∧ get s1 9 = v ∧ get s1 10 = .int .i64 l.length ∧ get s1 11 = .int .i64 i ∧ prodW n (l.drop i) = devs l) l.length ?_ ?_
      · exact ⟨rfl, 0, 1, rfl, Nat.zero_le _, rfl, rfl, rfl, rfl, by simp [devs, hm']⟩
      · rintro m s1 H1 ⟨rfl, i, n, hmm, hi, g3, g9, g10, g11, hgo⟩
        simp only [cut_cons, cut_nil, g3, g9, g10, g11]
        have hi0 : (0 : Int) ≤ i := Int.natCast_nonneg i
        have hd := fun h => drop_nth l i h
        have hnil : ¬ i < l.length → l.drop i = [] := fun h => List.drop_of_length_le (by omega)
        have hw1 : w ((i : Int) + 1) = ((i + 1 : Nat) : Int) := w_id (by omega)
        clear g3 g9 g10 g11
        repeat' (first | apply goSeq | apply goReg | apply goSeqN | apply goSeqR | apply goSkip | apply goRet | apply goNil | apply goBlock | apply goExit | apply goBlkN | apply goBlkR | apply goBlkE | apply goSeqE | apply goLoopR | apply goLoopE | (apply goOp; (· (simp [*]; try exact rfl)); (· exact rfl)) | (apply goOp0; (· (simp [*]; try exact rfl)); (· exact rfl)) | (apply goYes; (· (simp [*]; done)); (· (simp [*]; try exact rfl)); (· exact rfl)) | (apply goNo; (· (simp [*]; done))) | (apply goNoU; (· (simp; exact rfl))) | (apply goIfT; (· (simp [*]; done))) | (apply goIfF; (· (simp [*]; done))) | (apply goIf; (· (simp; exact rfl)); (· with_reducible exact rfl)) | (apply goSplit; (· (simp; exact rfl)); (· with_reducible exact rfl)) | (apply goIfQ; (· (simp; exact rfl)); (· exact rfl)) | (apply goSplitQ; (· (simp; exact rfl)); (· exact rfl)) | (apply goBlkX; (· rfl)) | intro _)
        all_goals first
          | (refine goEnd hw (Pre.refl _) (by simp) (by simp [rs88]; exact rfl) rfl ?_; rw [← hgo]; simp [prodW, hd, hnil, *]; done)
          | (refine goLoopN (l.length - (i + 1)) (by omega) ⟨rfl, i + 1, _, rfl, by omega, rfl, rfl, rfl, rfl, ?_⟩; rw [← hgo]; simp [prodW, hd, *])
  · cases hv
@[simp] theorem F88_at (v : AV) (H : Hp) : F88 [v] H = (ints H v).map fun l => .int .i64 (devs l) := rfl

def shapeGo : Int → List Int → Bool
  | n, [] => decide (n ≤ 4096)
  | n, k :: l => if k < 0 ∨ 32 < k then false else shapeGo (w (n * k)) l
def shapeOK (l : List Int) : Bool := if 4 < l.length then false else shapeGo 1 l
def F90 (args : List AV) (H : Hp) : Option AV := match args with
  | [v] => (ints H v).map fun l => .bool (shapeOK l)
  | _ => none
theorem snd90 : Sound Try.prog 90 (FSem.pure F90).run := by
  refine sound_of hT (EOK_nil _) mixed A90 Try.func90 hb90 (by kernel_rfl) (by kernel_rfl) (by kernel_rfl) (by kernel_rfl) sh90 1 (by kernel_rfl) rs90 hr90 ?_
  intro args H r H' hw h
  obtain ⟨rfl, hv⟩ := pureAt h
  clear h
  unfold F90 at hv
  split at hv
  · rename_i v
    obtain ⟨l, hl, hv⟩ := Option.map_eq_some_iff.1 hv
    cases hv
    have hlen := alenS_ints hl
    have hb := ints_len hl
    have hix := aidxS_ints hl .i64
    have hld := aload_nth T3 rfl hl
    refine ⟨rfl, go ?_⟩
    unfold c90
    simp only [argSl]
    simp only [← aidx22, ← alen22] at hix hlen
    repeat' (first | apply goSeq | apply goReg | apply goSeqN | apply goSeqR | apply goSkip | apply goRet | apply goNil | apply goBlock | apply goExit | apply goBlkN | apply goBlkR | apply goBlkE | apply goSeqE | apply goLoopR | apply goLoopE | (apply goOp; (· (simp [*]; try exact rfl)); (· exact rfl)) | (apply goOp0; (· (simp [*]; try exact rfl)); (· exact rfl)) | (apply goYes; (· (simp [*]; done)); (· (simp [*]; try exact rfl)); (· exact rfl)) | (apply goNo; (· (simp [*]; done))) | (apply goNoU; (· (simp; exact rfl))) | (apply goIfT; (· (simp [*]; done))) | (apply goIfF; (· (simp [*]; done))) | (apply goIf; (· (simp; exact rfl)); (· with_reducible exact rfl)) | (apply goSplit; (· (simp; exact rfl)); (· with_reducible exact rfl)) | (apply goIfQ; (· (simp; exact rfl)); (· exact rfl)) | (apply goSplitQ; (· (simp; exact rfl)); (· exact rfl)) | (apply goBlkX; (· rfl)) | intro _)
    · rename_i h3
      have h3' : 4 < l.length := by omega
      refine goEnd hw (Pre.refl _) (by simp) (by simp [rs90]; exact rfl) rfl ?_
      simp [shapeOK, h3']
    · rename_i h3
      have h3' : ¬ 4 < l.length := by omega
      refine goLoop (fun m s1 H1 => H1 = H' ∧ ∃ (i : Nat) (n : Int), m = l.length - i ∧ i ≤ l.length ∧ get s1 3 = .int .i64 n ∧ get s1 9 = v ∧ get s1 10 = .int .i64 l.length ∧ get s1 11 = .int .i64 i ∧ shapeGo n (l.drop i) = shapeOK l) l.length ?_ ?_
      · exact ⟨rfl, 0, 1, rfl, Nat.zero_le _, rfl, rfl, rfl, rfl, by simp [shapeOK, h3']⟩
      · rintro m s1 H1 ⟨rfl, i, n, hm, hi, g3, g9, g10, g11, hgo⟩
        simp only [cut_cons, cut_nil, g3, g9, g10, g11]
        have hi0 : (0 : Int) ≤ i := Int.natCast_nonneg i
        have hd := fun h => drop_nth l i h
        have hnil : ¬ i < l.length → l.drop i = [] := fun h => List.drop_of_length_le (by omega)
        have hw1 : w ((i : Int) + 1) = ((i + 1 : Nat) : Int) := w_id (by omega)
        clear g3 g9 g10 g11
        repeat' (first | apply goSeq | apply goReg | apply goSeqN | apply goSeqR | apply goSkip | apply goRet | apply goNil | apply goBlock | apply goExit | apply goBlkN | apply goBlkR | apply goBlkE | apply goSeqE | apply goLoopR | apply goLoopE | (apply goOp; (· (simp [*]; try exact rfl)); (· exact rfl)) | (apply goOp0; (· (simp [*]; try exact rfl)); (· exact rfl)) | (apply goYes; (· (simp [*]; done)); (· (simp [*]; try exact rfl)); (· exact rfl)) | (apply goNo; (· (simp [*]; done))) | (apply goNoU; (· (simp; exact rfl))) | (apply goIfT; (· (simp [*]; done))) | (apply goIfF; (· (simp [*]; done))) | (apply goIf; (· (simp; exact rfl)); (· with_reducible exact rfl)) | (apply goSplit; (· (simp; exact rfl)); (· with_reducible exact rfl)) | (apply goIfQ; (· (simp; exact rfl)); (· exact rfl)) | (apply goSplitQ; (· (simp; exact rfl)); (· exact rfl)) | (apply goBlkX; (· rfl)) | intro _)
        all_goals first
          | (refine goEnd hw (Pre.refl _) (by simp) (by simp [rs90]; exact rfl) rfl ?_; rw [← hgo]; simp [shapeGo, hd, hnil, *]; done)
          | (refine goLoopN (l.length - (i + 1)) (by omega) ⟨rfl, i + 1, _, rfl, by omega, rfl, rfl, rfl, rfl, ?_⟩; rw [← hgo]; simp [shapeGo, hd, *])
  · cases hv
@[simp] theorem F90_at (v : AV) (H : Hp) : F90 [v] H = (ints H v).map fun l => .bool (shapeOK l) := rfl

def idxGo (x : Int) : Int → List Int → Int
  | _, [] => -1
  | i, a :: l => if x = a then i else idxGo x (i + 1) l
def F157 (args : List AV) (H : Hp) : Option AV := match args with
  | [v, .int .i64 x] => (ints H v).map fun l => .int .i64 (idxGo x 0 l)
  | _ => none
theorem snd157 : Sound Try.prog 157 (FSem.pure F157).run := by
  refine sound_of hT (EOK_nil _) mixed A157 Try.func157 hb157 (by kernel_rfl) (by kernel_rfl) (by kernel_rfl) (by kernel_rfl) sh157 2 (by kernel_rfl) rs157 hr157 ?_
  intro args H r H' hw h
  obtain ⟨rfl, hv⟩ := pureAt h
  clear h
  unfold F157 at hv
  split at hv
  · rename_i v x
    obtain ⟨l, hl, hv⟩ := Option.map_eq_some_iff.1 hv
    cases hv
    have hlen := alenS_ints hl
    have hb := ints_len hl
    have hix := aidxS_ints hl .i64
    have hld := aload_nth T3 rfl hl
    refine ⟨rfl, go ?_⟩
    unfold c157
    simp only [argSl]
    simp only [← aidx22, ← alen22] at hix hlen
    repeat' (first | apply goSeq | apply goReg | apply goSeqN | apply goSeqR | apply goSkip | apply goRet | apply goNil | apply goBlock | apply goExit | apply goBlkN | apply goBlkR | apply goBlkE | apply goSeqE | apply goLoopR | apply goLoopE | (apply goOp; (· (simp [*]; try exact rfl)); (· exact rfl)) | (apply goOp0; (· (simp [*]; try exact rfl)); (· exact rfl)) | (apply goYes; (· (simp [*]; done)); (· (simp [*]; try exact rfl)); (· exact rfl)) | (apply goNo; (· (simp [*]; done))) | (apply goNoU; (· (simp; exact rfl))) | (apply goIfT; (· (simp [*]; done))) | (apply goIfF; (· (simp [*]; done))) | (apply goIf; (· (simp; exact rfl)); (· with_reducible exact rfl)) | (apply goSplit; (· (simp; exact rfl)); (· with_reducible exact rfl)) | (apply goIfQ; (· (simp; exact rfl)); (· exact rfl)) | (apply goSplitQ; (· (simp; exact rfl)); (· exact rfl)) | (apply goBlkX; (· rfl)) | intro _)
    refine goLoop (fun m s1 H1 => H1 = H' ∧ ∃ (i : Nat), m = l.length - i ∧ i ≤ l.length ∧ get s1 0 = v ∧ get s1 1 = .int .i64 x ∧ get s1 7 = .int .i64 l.length ∧ get s1 8 = .int .i64 i ∧ idxGo x i (l.drop i) = idxGo x 0 l) l.length ?_ ?_
    · exact ⟨rfl, 0, rfl, Nat.zero_le _, rfl, rfl, rfl, rfl, rfl⟩
    · rintro m s1 H1 ⟨rfl, i, hm, hi, g3, g9, g10, g11, hgo⟩
      simp only [cut_cons, cut_nil, g3, g9, g10, g11]
      have hi0 : (0 : Int) ≤ i := Int.natCast_nonneg i
      have hd := fun h => drop_nth l i h
      have hnil : ¬ i < l.length → l.drop i = [] := fun h => List.drop_of_length_le (by omega)
      have hw1 : w ((i : Int) + 1) = ((i + 1 : Nat) : Int) := w_id (by omega)
      clear g3 g9 g10 g11
      repeat' (first | apply goSeq | apply goReg | apply goSeqN | apply goSeqR | apply goSkip | apply goRet | apply goNil | apply goBlock | apply goExit | apply goBlkN | apply goBlkR | apply goBlkE | apply goSeqE | apply goLoopR | apply goLoopE | (apply goOp; (· (simp [*]; try exact rfl)); (· exact rfl)) | (apply goOp0; (· (simp [*]; try exact rfl)); (· exact rfl)) | (apply goYes; (· (simp [*]; done)); (· (simp [*]; try exact rfl)); (· exact rfl)) | (apply goNo; (· (simp [*]; done))) | (apply goNoU; (· (simp; exact rfl))) | (apply goIfT; (· (simp [*]; done))) | (apply goIfF; (· (simp [*]; done))) | (apply goIf; (· (simp; exact rfl)); (· with_reducible exact rfl)) | (apply goSplit; (· (simp; exact rfl)); (· with_reducible exact rfl)) | (apply goIfQ; (· (simp; exact rfl)); (· exact rfl)) | (apply goSplitQ; (· (simp; exact rfl)); (· exact rfl)) | (apply goBlkX; (· rfl)) | intro _)
      all_goals first
        | (refine goEnd hw (Pre.refl _) (by simp) (by simp [rs157]; exact rfl) rfl ?_; rw [← hgo]; simp [idxGo, hd, hnil, *]; done)
        | (refine goLoopN (l.length - (i + 1)) (by omega) ⟨rfl, i + 1, rfl, by omega, rfl, rfl, rfl, rfl, ?_⟩; rw [← hgo]; simp [idxGo, hd, *])
  · cases hv
@[simp] theorem F157_at (v : AV) (x : Int) (H : Hp) : F157 [v, .int .i64 x] H = (ints H v).map fun l => .int .i64 (idxGo x 0 l) := rfl

def contains (l : List Int) (x : Int) : Bool := decide (0 ≤ idxGo x 0 l)
def F125 (args : List AV) (H : Hp) : Option AV := match args with
  | [v, .int .i64 x] => (ints H v).map fun l => .bool (contains l x)
  | _ => none
theorem snd125 : Sound Try.prog 125 (FSem.pure F125).run := by
  refine sound_of hT (EOK_cons snd157 (EOK_nil _)) mixed A125 Try.func125 hb125 (by kernel_rfl) (by kernel_rfl) (by kernel_rfl) (by kernel_rfl) sh125 2 (by kernel_rfl) rs125 hr125 ?_
  intro args H r H' hw h
  obtain ⟨rfl, hv⟩ := pureAt h
  clear h
  unfold F125 at hv
  split at hv
  · rename_i v x
    obtain ⟨l, hl, hv⟩ := Option.map_eq_some_iff.1 hv
    cases hv
    refine ⟨rfl, go ?_⟩
    unfold c125
    simp only [argSl]
    repeat' (first | apply goSeq | apply goReg | apply goSeqN | apply goSeqR | apply goSkip | apply goRet | apply goNil | apply goBlock | apply goExit | apply goBlkN | apply goBlkR | apply goBlkE | apply goSeqE | apply goLoopR | apply goLoopE | (apply goOp; (· (simp [*]; try exact rfl)); (· exact rfl)) | (apply goOp0; (· (simp [*]; try exact rfl)); (· exact rfl)) | (apply goYes; (· (simp [*]; done)); (· (simp [*]; try exact rfl)); (· exact rfl)) | (apply goNo; (· (simp [*]; done))) | (apply goNoU; (· (simp; exact rfl))) | (apply goIfT; (· (simp [*]; done))) | (apply goIfF; (· (simp [*]; done))) | (apply goIf; (· (simp; exact rfl)); (· with_reducible exact rfl)) | (apply goSplit; (· (simp; exact rfl)); (· with_reducible exact rfl)) | (apply goIfQ; (· (simp; exact rfl)); (· exact rfl)) | (apply goSplitQ; (· (simp; exact rfl)); (· exact rfl)) | (apply goBlkX; (· rfl)) | intro _)
    refine goEnd hw (Pre.refl _) (by simp) (by simp [rs125]; exact rfl) rfl ?_
    simp [contains]
  · cases hv
@[simp] theorem F125_at (v : AV) (x : Int) (H : Hp) : F125 [v, .int .i64 x] H = (ints H v).map fun l => .bool (contains l x) := rfl
end Go.Proofs.Ytokadkakmhfdeaa.Pq
