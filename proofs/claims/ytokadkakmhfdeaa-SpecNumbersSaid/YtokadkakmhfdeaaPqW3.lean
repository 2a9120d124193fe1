/- Walks: the document's meshes; specs. -/
import Derived.Test.YtokadkakmhfdeaaPqW2
set_option linter.unusedVariables false
set_option linter.unusedSimpArgs false
namespace Go.Proofs.Ytokadkakmhfdeaa.Pq
open Go.RowKit

theorem take_nth (l : List Int) (i : Nat) (h : i < l.length) : l.take (i + 1) = l.take i ++ [nth l i] := by
  rw [List.take_add_one, List.getElem?_eq_getElem h]
  simp [nth, List.getD_eq_getElem?_getD, h]

def rGo : Nat → Int → List Int → Bool
  | _, n, [] => decide (n ≤ 8)
  | i, n, k :: l => if (3 : Int) ≤ i ∨ k < 1 ∨ 8 < k then false else rGo (i + 1) (w (n * k)) l
def rOK (l : List Int) : Bool := rGo 0 1 l
def F56 (args : List AV) (H : Hp) : Option AV := match args with
  | [v] => (ints H v).map fun l => .bool (rOK l)
  | _ => none
theorem snd56 : Sound Try.prog 56 (FSem.pure F56).run := by
  refine sound_of hT (EOK_nil _) mixed A56 Try.func56 hb56 (by kernel_rfl) (by kernel_rfl) (by kernel_rfl) (by kernel_rfl) sh56 1 (by kernel_rfl) rs56 hr56 ?_
  intro args H r H' hw h
  obtain ⟨rfl, hv⟩ := pureAt h
  clear h
  unfold F56 at hv
  split at hv
  · rename_i v
    obtain ⟨l, hl, hv⟩ := Option.map_eq_some_iff.1 hv
    cases hv
    have hlen := alenS_ints hl
    have hb := ints_len hl
    have hix := aidxS_ints hl .i64
    have hld := aload_nth T3 rfl hl
    refine ⟨rfl, go ?_⟩
    unfold c56
    simp only [argSl]
    simp only [← aidx22, ← alen22] at hix hlen
    repeat' (first | apply goSeq | apply goReg | apply goSeqN | apply goSeqR | apply goSkip | apply goRet | apply goNil | apply goBlock | apply goExit | apply goBlkN | apply goBlkR | apply goBlkE | apply goSeqE | apply goLoopR | apply goLoopE | (apply goOp; (· (simp [*]; try exact rfl)); (· exact rfl)) | (apply goOp0; (· (simp [*]; try exact rfl)); (· exact rfl)) | (apply goYes; (· (simp [*]; done)); (· (simp [*]; try exact rfl)); (· exact rfl)) | (apply goNo; (· (simp [*]; done))) | (apply goNoU; (· (simp; exact rfl))) | (apply goIfT; (· (simp [*]; done))) | (apply goIfF; (· (simp [*]; done))) | (apply goIf; (· (simp; exact rfl)); (· with_reducible exact rfl)) | (apply goSplit; (· (simp; exact rfl)); (· with_reducible exact rfl)) | (apply goIfQ; (· (simp; exact rfl)); (· exact rfl)) | (apply goSplitQ; (· (simp; exact rfl)); (· exact rfl)) | (apply goBlkX; (· rfl)) | intro _)
    refine goLoop (fun m s1 H1 => H1 = H' ∧ ∃ (i : Nat) (n : Int), m = l.length - i ∧ i ≤ l.length ∧ get s1 0 = v ∧ get s1 3 = .int .i64 n ∧ get s1 6 = .int .i64 l.length ∧ get s1 7 = .int .i64 i ∧ rGo i n (l.drop i) = rOK l) l.length ?_ ?_
    · exact ⟨rfl, 0, 1, rfl, Nat.zero_le _, rfl, rfl, rfl, rfl, rfl⟩
    · rintro m s1 H1 ⟨rfl, i, n, hm, hi, g3, g9, g10, g11, hgo⟩
      simp only [cut_cons, cut_nil, g3, g9, g10, g11]
      have hi0 : (0 : Int) ≤ i := Int.natCast_nonneg i
      have hd := fun h => drop_nth l i h
      have hnil : ¬ i < l.length → l.drop i = [] := fun h => List.drop_of_length_le (by omega)
      have hw1 : w ((i : Int) + 1) = ((i + 1 : Nat) : Int) := w_id (by omega)
      clear g3 g9 g10 g11
      repeat' (first | apply goSeq | apply goReg | apply goSeqN | apply goSeqR | apply goSkip | apply goRet | apply goNil | apply goBlock | apply goExit | apply goBlkN | apply goBlkR | apply goBlkE | apply goSeqE | apply goLoopR | apply goLoopE | (apply goOp; (· (simp [*]; try exact rfl)); (· exact rfl)) | (apply goOp0; (· (simp [*]; try exact rfl)); (· exact rfl)) | (apply goYes; (· (simp [*]; done)); (· (simp [*]; try exact rfl)); (· exact rfl)) | (apply goNo; (· (simp [*]; done))) | (apply goNoU; (· (simp; exact rfl))) | (apply goIfT; (· (simp [*]; done))) | (apply goIfF; (· (simp [*]; done))) | (apply goIf; (· (simp; exact rfl)); (· with_reducible exact rfl)) | (apply goSplit; (· (simp; exact rfl)); (· with_reducible exact rfl)) | (apply goIfQ; (· (simp; exact rfl)); (· exact rfl)) | (apply goSplitQ; (· (simp; exact rfl)); (· exact rfl)) | (apply goBlkX; (· rfl)) | intro _)
      all_goals first
        | (refine goEnd hw (Pre.refl _) (by simp) (by simp [rs56]; exact rfl) rfl ?_; rw [← hgo]; simp [rGo, hd, hnil, *]; done)
        | (refine goLoopN (l.length - (i + 1)) (by omega) ⟨rfl, i + 1, _, rfl, by omega, rfl, rfl, rfl, rfl, ?_⟩; rw [← hgo]; simp [rGo, hd, *])
  · cases hv
@[simp] theorem F56_at (v : AV) (H : Hp) : F56 [v] H = (ints H v).map fun l => .bool (rOK l) := rfl

def rDevs (l : List Int) : Int := if rOK l = true then prodW 1 l else 0
def F20 (args : List AV) (H : Hp) : Option AV := match args with
  | [v] => (ints H v).map fun l => .int .i64 (rDevs l)
  | _ => none
theorem snd20 : Sound Try.prog 20 (FSem.pure F20).run := by
  refine sound_of hT (EOK_cons snd56 (EOK_nil _)) mixed A20 Try.func20 hb20 (by kernel_rfl) (by kernel_rfl) (by kernel_rfl) (by kernel_rfl) sh20 1 (by kernel_rfl) rs20 hr20 ?_
  intro args H r H' hw h
  obtain ⟨rfl, hv⟩ := pureAt h
  clear h
  unfold F20 at hv
  split at hv
  · rename_i v
    obtain ⟨l, hl, hv⟩ := Option.map_eq_some_iff.1 hv
    cases hv
    have hlen := alenS_ints hl
    have hb := ints_len hl
    have hix := aidxS_ints hl .i64
    have hld := aload_nth T3 rfl hl
    refine ⟨rfl, go ?_⟩
    unfold c20
    simp only [argSl]
    simp only [← aidx22, ← alen22] at hix hlen
    repeat' (first | apply goSeq | apply goReg | apply goSeqN | apply goSeqR | apply goSkip | apply goRet | apply goNil | apply goBlock | apply goExit | apply goBlkN | apply goBlkR | apply goBlkE | apply goSeqE | apply goLoopR | apply goLoopE | (apply goOp; (· (simp [*]; try exact rfl)); (· exact rfl)) | (apply goOp0; (· (simp [*]; try exact rfl)); (· exact rfl)) | (apply goYes; (· (simp [*]; done)); (· (simp [*]; try exact rfl)); (· exact rfl)) | (apply goNo; (· (simp [*]; done))) | (apply goNoU; (· (simp; exact rfl))) | (apply goIfT; (· (simp [*]; done))) | (apply goIfF; (· (simp [*]; done))) | (apply goIf; (· (simp; exact rfl)); (· with_reducible exact rfl)) | (apply goSplit; (· (simp; exact rfl)); (· with_reducible exact rfl)) | (apply goIfQ; (· (simp; exact rfl)); (· exact rfl)) | (apply goSplitQ; (· (simp; exact rfl)); (· exact rfl)) | (apply goBlkX; (· rfl)) | intro _)
    · refine goEnd hw (Pre.refl _) (by simp) (by simp [rs20]; exact rfl) rfl ?_
      simp_all [rDevs]
    · rename_i hm
      have hm' : rOK l = true := by simpa using hm
      refine goLoop (fun m s1 H1 => H1 = H' ∧ ∃ (i : Nat) (n : Int), m = l.length - i ∧ i ≤ l.length ∧ get s1 0 = v ∧ get s1 3 = .int .i64 n ∧ get s1 9 = .int .i64 l.length ∧ get s1 10 = .int .i64 i ∧ prodW n (l.drop i) = rDevs l) l.length ?_ ?_
      · exact ⟨rfl, 0, 1, rfl, Nat.zero_le _, rfl, rfl, rfl, rfl, by simp [rDevs, hm']⟩
      · rintro m s1 H1 ⟨rfl, i, n, hmm, hi, g3, g9, g10, g11, hgo⟩
        simp only [cut_cons, cut_nil, g3, g9, g10, g11]
        have hi0 : (0 : Int) ≤ i := Int.natCast_nonneg i
        have hd := fun h => drop_nth l i h
        have hnil : ¬ i < l.length → l.drop i = [] := fun h => List.drop_of_length_le (by omega)
        have hw1 : w ((i : Int) + 1) = ((i + 1 : Nat) : Int) := w_id (by omega)
        clear g3 g9 g10 g11
        repeat' (first | apply goSeq | apply goReg | apply goSeqN | apply goSeqR | apply goSkip | apply goRet | apply goNil | apply goBlock | apply goExit | apply goBlkN | apply goBlkR | apply goBlkE | apply goSeqE | apply goLoopR | apply goLoopE | (apply goOp; (· (simp [*]; try exact rfl)); (· exact rfl)) | (apply goOp0; (· (simp [*]; try exact rfl)); (· exact rfl)) | (apply goYes; (· (simp [*]; done)); (· (simp [*]; try exact rfl)); (· exact rfl)) | (apply goNo; (· (simp [*]; done))) | (apply goNoU; (· (simp; exact rfl))) | (apply goIfT; (· (simp [*]; done))) | (apply goIfF; (· (simp [*]; done))) | (apply goIf; (· (simp; exact rfl)); (· with_reducible exact rfl)) | (apply goSplit; (· (simp; exact rfl)); (· with_reducible exact rfl)) | (apply goIfQ; (· (simp; exact rfl)); (· exact rfl)) | (apply goSplitQ; (· (simp; exact rfl)); (· exact rfl)) | (apply goBlkX; (· rfl)) | intro _)
        all_goals first
          | (refine goEnd hw (Pre.refl _) (by simp) (by simp [rs20]; exact rfl) rfl ?_; rw [← hgo]; simp [prodW, hd, hnil, *]; done)
          | (refine goLoopN (l.length - (i + 1)) (by omega) ⟨rfl, i + 1, _, rfl, by omega, rfl, rfl, rfl, rfl, ?_⟩; rw [← hgo]; simp [prodW, hd, *])
  · cases hv
@[simp] theorem F20_at (v : AV) (H : Hp) : F20 [v] H = (ints H v).map fun l => .int .i64 (rDevs l) := rfl

def specGo (n : Int) : List Int → List Int → Bool
  | _, [] => true
  | pre, k :: r => if k < -1 ∨ n ≤ k then false else if k ≠ -1 ∧ contains pre k = true then false else specGo n (pre ++ [k]) r
def specOK (sz sp : List Int) (rank : Int) : Bool := if meshOK sz = false ∨ (sp.length : Int) ≠ rank then false else specGo sz.length [] sp
def F63 (args : List AV) (H : Hp) : Option AV := match args with
  | [a, b, .int .i64 r] => (ints H a).bind fun sz => (ints H b).map fun sp => .bool (specOK sz sp r)
  | _ => none
set_option maxHeartbeats 1000000 in
theorem snd63 : Sound Try.prog 63 (FSem.pure F63).run := by
  refine sound_of hT (EOK_cons snd89 (EOK_cons snd125 (EOK_nil _))) mixed A63 Try.func63 hb63 (by kernel_rfl) (by kernel_rfl) (by kernel_rfl) (by kernel_rfl) sh63 3 (by kernel_rfl) rs63 hr63 ?_
  intro args H r H' hw h
  obtain ⟨rfl, hv⟩ := pureAt h
  clear h
  unfold F63 at hv
  split at hv
  · rename_i a v r
    obtain ⟨sz, hsz, hv⟩ := Option.bind_eq_some_iff.1 hv
    obtain ⟨l, hl, hv⟩ := Option.map_eq_some_iff.1 hv
    cases hv
    have hlen := alenS_ints hl
    have hb := ints_len hl
    have hix := aidxS_ints hl .i64
    have hld := aload_nth T3 rfl hl
    have hlen2 := alenS_ints hsz
    have hsl := aslice_pre hl .i64
    have hpre := ints_pre hl
    refine ⟨rfl, go ?_⟩
    unfold c63
    simp only [argSl]
    simp only [← aidx22, ← alen22] at hix hlen hlen2
    have hx := @xdo_slice22
    repeat' (first | apply goSeq | apply goReg | apply goSeqN | apply goSeqR | apply goSkip | apply goRet | apply goNil | apply goBlock | apply goExit | apply goBlkN | apply goBlkR | apply goBlkE | apply goSeqE | apply goLoopR | apply goLoopE | (apply goOp; (· (simp [*]; try exact rfl)); (· exact rfl)) | (apply goOp0; (· (simp [*]; try exact rfl)); (· exact rfl)) | (apply goYes; (· (simp [*]; done)); (· (simp [*]; try exact rfl)); (· exact rfl)) | (apply goNo; (· (simp [*]; done))) | (apply goNoU; (· (simp; exact rfl))) | (apply goIfT; (· (simp [*]; done))) | (apply goIfF; (· (simp [*]; done))) | (apply goIf; (· (simp; exact rfl)); (· with_reducible exact rfl)) | (apply goSplit; (· (simp; exact rfl)); (· with_reducible exact rfl)) | (apply goIfQ; (· (simp; exact rfl)); (· exact rfl)) | (apply goSplitQ; (· (simp; exact rfl)); (· exact rfl)) | (apply goBlkX; (· rfl)) | intro _)
    · refine goEnd hw (Pre.refl _) (by simp) (by simp [rs63]; exact rfl) rfl ?_
      simp_all [specOK]
    · refine goEnd hw (Pre.refl _) (by simp) (by simp [rs63]; exact rfl) rfl ?_
      simp_all [specOK]
    · rename_i hm hr
      have hm' : meshOK sz = true := by simpa using hm
      have hr' : (l.length : Int) = r := by simpa using hr
      clear hr
      subst hr'
      refine goLoop (fun m s1 H1 => H1 = H' ∧ ∃ (i : Nat), m = l.length - i ∧ i ≤ l.length ∧ get s1 0 = a ∧ get s1 1 = v ∧ get s1 18 = v ∧ get s1 19 = .int .i64 l.length ∧ get s1 20 = .int .i64 i ∧ specGo sz.length (l.take i) (l.drop i) = specOK sz l l.length) l.length ?_ ?_
      · exact ⟨rfl, 0, rfl, Nat.zero_le _, rfl, rfl, rfl, rfl, rfl, by simp [specOK, hm']⟩
      · rintro m s1 H1 ⟨rfl, i, hmm, hi, g3, g9, g10, g11, g12, hgo⟩
        simp only [cut_cons, cut_nil, g3, g9, g10, g11, g12]
        have hi0 : (0 : Int) ≤ i := Int.natCast_nonneg i
        have hd := fun h => drop_nth l i h
        have ht := fun h => take_nth l i h
        have hnil : ¬ i < l.length → l.drop i = [] := fun h => List.drop_of_length_le (by omega)
        have hw1 : w ((i : Int) + 1) = ((i + 1 : Nat) : Int) := w_id (by omega)
        clear g3 g9 g10 g11 g12 hm
        replace hgo := Hide.mk hgo
        replace hm' := Hide.mk hm'
        have hz : ¬ (sz.length : Int) ≤ -1 := by omega
        repeat' (first | apply goSeq | apply goReg | apply goSeqN | apply goSeqR | apply goSkip | apply goRet | apply goNil | apply goBlock | apply goExit | apply goBlkN | apply goBlkR | apply goBlkE | apply goSeqE | apply goLoopR | apply goLoopE | (apply goOp; (· (simp [*]; try exact rfl)); (· exact rfl)) | (apply goOp0; (· (simp [*]; try exact rfl)); (· exact rfl)) | (apply goYes; (· (simp [*]; done)); (· (simp [*]; try exact rfl)); (· exact rfl)) | (apply goNo; (· (simp [*]; done))) | (apply goNoU; (· (simp; exact rfl))) | (apply goIfT; (· (simp [*]; done))) | (apply goIfF; (· (simp [*]; done))) | (apply goIf; (· (simp; exact rfl)); (· with_reducible exact rfl)) | (apply goSplit; (· (simp; exact rfl)); (· with_reducible exact rfl)) | (apply goIfQ; (· (simp; exact rfl)); (· exact rfl)) | (apply goSplitQ; (· (simp; exact rfl)); (· exact rfl)) | (apply goBlkX; (· rfl)) | intro _)
        all_goals replace hgo := hgo.out
        all_goals (try simp only [Bool.not_eq_true', decide_eq_false_iff_not, Bool.not_eq_false', decide_eq_true_eq] at *)
        all_goals first
          | (refine goEnd hw (Pre.refl _) (by simp) (by simp [rs63]; exact rfl) rfl ?_; rw [← hgo]; simp [specGo, hd, hnil, *]; done)
          | (refine goLoopN (l.length - (i + 1)) (by omega) ⟨rfl, i + 1, rfl, by omega, rfl, rfl, rfl, rfl, rfl, ?_⟩; rw [← hgo]; simp [specGo, hd, ht, *]; done)
  · cases hv
@[simp] theorem F63_at (a b : AV) (r : Int) (H : Hp) : F63 [a, b, .int .i64 r] H = (ints H a).bind fun sz => (ints H b).map fun sp => .bool (specOK sz sp r) := rfl

def anyEq (x : Int) : List Int → Bool
  | [] => false
  | a :: l => if a = x then true else anyEq x l
def rSpecGo (n : Int) : List Int → List Int → Bool
  | _, [] => true
  | pre, k :: r => if k < -1 ∨ n ≤ k then false else if 0 ≤ k ∧ anyEq k pre = true then false else rSpecGo n (pre ++ [k]) r
def rSpecOK (sz sp : List Int) (rank : Int) : Bool := if rOK sz = false ∨ (sp.length : Int) ≠ rank then false else rSpecGo sz.length [] sp
def F58 (args : List AV) (H : Hp) : Option AV := match args with
  | [a, b, .int .i64 r] => (ints H a).bind fun sz => (ints H b).map fun sp => .bool (rSpecOK sz sp r)
  | _ => none
theorem nth_take (l : List Int) (i k : Nat) (h : k < i) : nth (l.take i) k = nth l k := by
  simp [nth, List.getD_eq_getElem?_getD, List.getElem?_take, h]
set_option maxHeartbeats 1000000 in
theorem snd58 : Sound Try.prog 58 (FSem.pure F58).run := by
  refine sound_of hT (EOK_cons snd56 (EOK_nil _)) mixed A58 Try.func58 hb58 (by kernel_rfl) (by kernel_rfl) (by kernel_rfl) (by kernel_rfl) sh58 3 (by kernel_rfl) rs58 hr58 ?_
  intro args H r H' hw h
  obtain ⟨rfl, hv⟩ := pureAt h
  clear h
  unfold F58 at hv
  split at hv
  · rename_i a v r
    obtain ⟨sz, hsz, hv⟩ := Option.bind_eq_some_iff.1 hv
    obtain ⟨l, hl, hv⟩ := Option.map_eq_some_iff.1 hv
    cases hv
    have hlen := alenS_ints hl
    have hb := ints_len hl
    have hix := aidxS_ints hl .i64
    have hld := aload_nth T3 rfl hl
    have hlen2 := alenS_ints hsz
    refine ⟨rfl, go ?_⟩
    unfold c58
    simp only [argSl]
    simp only [← aidx22, ← alen22] at hix hlen hlen2
    repeat' (first | apply goSeq | apply goReg | apply goSeqN | apply goSeqR | apply goSkip | apply goRet | apply goNil | apply goBlock | apply goExit | apply goBlkN | apply goBlkR | apply goBlkE | apply goSeqE | apply goLoopR | apply goLoopE | (apply goOp; (· (simp [*]; try exact rfl)); (· exact rfl)) | (apply goOp0; (· (simp [*]; try exact rfl)); (· exact rfl)) | (apply goYes; (· (simp [*]; done)); (· (simp [*]; try exact rfl)); (· exact rfl)) | (apply goNo; (· (simp [*]; done))) | (apply goNoU; (· (simp; exact rfl))) | (apply goIfT; (· (simp [*]; done))) | (apply goIfF; (· (simp [*]; done))) | (apply goIf; (· (simp; exact rfl)); (· with_reducible exact rfl)) | (apply goSplit; (· (simp; exact rfl)); (· with_reducible exact rfl)) | (apply goIfQ; (· (simp; exact rfl)); (· exact rfl)) | (apply goSplitQ; (· (simp; exact rfl)); (· exact rfl)) | (apply goBlkX; (· rfl)) | intro _)
    · refine goEnd hw (Pre.refl _) (by simp) (by simp [rs58]; exact rfl) rfl ?_
      simp_all [rSpecOK]
    · refine goEnd hw (Pre.refl _) (by simp) (by simp [rs58]; exact rfl) rfl ?_
      simp_all [rSpecOK]
    · rename_i hm hr
      have hm' : rOK sz = true := by simpa using hm
      have hr' : (l.length : Int) = r := by simpa using hr
      clear hr hv
      subst hr'
      refine goLoop (fun m s1 H1 => H1 = H' ∧ ∃ (i : Nat), m = l.length - i ∧ i ≤ l.length ∧ get s1 0 = a ∧ get s1 1 = v ∧ get s1 19 = .int .i64 l.length ∧ get s1 20 = .int .i64 i ∧ rSpecGo sz.length (l.take i) (l.drop i) = rSpecOK sz l l.length) l.length ?_ ?_
      · exact ⟨rfl, 0, rfl, Nat.zero_le _, rfl, rfl, rfl, rfl, by simp [rSpecOK, hm']⟩
      · rintro m s1 H1 ⟨rfl, i, hmm, hi, g3, g9, g11, g12, hgo⟩
        simp only [cut_cons, cut_nil, g3, g9, g11, g12]
        have hi0 : (0 : Int) ≤ i := Int.natCast_nonneg i
        have hd := fun h => drop_nth l i h
        have ht := fun h => take_nth l i h
        have hnil : ¬ i < l.length → l.drop i = [] := fun h => List.drop_of_length_le (by omega)
        have hw1 : w ((i : Int) + 1) = ((i + 1 : Nat) : Int) := w_id (by omega)
        clear g3 g9 g11 g12 hm
        replace hgo := Hide.mk hgo
        replace hm' := Hide.mk hm'
        repeat' (first | apply goSeq | apply goReg | apply goSeqN | apply goSeqR | apply goSkip | apply goRet | apply goNil | apply goBlock | apply goExit | apply goBlkN | apply goBlkR | apply goBlkE | apply goSeqE | apply goLoopR | apply goLoopE | (apply goOp; (· (simp [*]; try exact rfl)); (· exact rfl)) | (apply goOp0; (· (simp [*]; try exact rfl)); (· exact rfl)) | (apply goYes; (· (simp [*]; done)); (· (simp [*]; try exact rfl)); (· exact rfl)) | (apply goNo; (· (simp [*]; done))) | (apply goNoU; (· (simp; exact rfl))) | (apply goIfT; (· (simp [*]; done))) | (apply goIfF; (· (simp [*]; done))) | (apply goIf; (· (simp; exact rfl)); (· with_reducible exact rfl)) | (apply goSplit; (· (simp; exact rfl)); (· with_reducible exact rfl)) | (apply goIfQ; (· (simp; exact rfl)); (· exact rfl)) | (apply goSplitQ; (· (simp; exact rfl)); (· exact rfl)) | (apply goBlkX; (· rfl)) | intro _)
        all_goals replace hgo := hgo.out
        all_goals (try simp only [Bool.not_eq_true', decide_eq_false_iff_not, Bool.not_eq_false', decide_eq_true_eq] at *)
        all_goals first
          | (refine goEnd hw (Pre.refl _) (by simp) (by simp [rs58]; exact rfl) rfl ?_; rw [← hgo]; simp [rSpecGo, hd, hnil, *]; done)
          | skip
        rename_i hlt hn1 hn2
        refine goLoop (fun m s1 H2 => H2 = H1 ∧ ∃ (k : Nat), m = i - k ∧ k ≤ i ∧ get s1 0 = a ∧ get s1 1 = v ∧ get s1 7 = .int .i64 i ∧ get s1 8 = .int .i64 k ∧ get s1 19 = .int .i64 l.length ∧ get s1 20 = .int .i64 i ∧ anyEq (nth l i) ((l.take i).drop k) = anyEq (nth l i) (l.take i)) i ?_ ?_
        · exact ⟨rfl, 0, rfl, Nat.zero_le _, rfl, rfl, rfl, rfl, rfl, rfl, rfl⟩
        · rintro m2 s2 H2 ⟨rfl, k, hmk, hk, g3, g9, g11, g12, g13, g14, hg2⟩
          simp only [cut_cons, cut_nil, g3, g9, g11, g12, g13, g14]
          clear g3 g9 g11 g12 g13 g14
          have hk0 : (0 : Int) ≤ k := Int.natCast_nonneg k
          have hki : k < i → k < l.length := by omega
          have hdk : k < i → (l.take i).drop k = nth l k :: (l.take i).drop (k + 1) := by
            intro h
            rw [drop_nth (l.take i) k (by simp; omega), nth_take l i k h]
          have hdn : ¬ k < i → (l.take i).drop k = [] := fun h => List.drop_of_length_le (by simp; omega)
          have hw2 : w ((k : Int) + 1) = ((k + 1 : Nat) : Int) := w_id (by omega)
          replace hgo := Hide.mk hgo
          replace hg2 := Hide.mk hg2
          repeat' (first | apply goSeq | apply goReg | apply goSeqN | apply goSeqR | apply goSkip | apply goRet | apply goNil | apply goBlock | apply goExit | apply goBlkN | apply goBlkR | apply goBlkE | apply goSeqE | apply goLoopR | apply goLoopE | (apply goOp; (· (simp [*]; try exact rfl)); (· exact rfl)) | (apply goOp0; (· (simp [*]; try exact rfl)); (· exact rfl)) | (apply goYes; (· (simp [*]; done)); (· (simp [*]; try exact rfl)); (· exact rfl)) | (apply goNo; (· (simp [*]; done))) | (apply goNoU; (· (simp; exact rfl))) | (apply goIfT; (· (simp [*]; done))) | (apply goIfF; (· (simp [*]; done))) | (apply goIf; (· (simp; exact rfl)); (· with_reducible exact rfl)) | (apply goSplit; (· (simp; exact rfl)); (· with_reducible exact rfl)) | (apply goIfQ; (· (simp; exact rfl)); (· exact rfl)) | (apply goSplitQ; (· (simp; exact rfl)); (· exact rfl)) | (apply goBlkX; (· rfl)) | intro _)
          all_goals replace hgo := hgo.out
          all_goals replace hg2 := hg2.out
          all_goals (try simp only [Bool.not_eq_true', decide_eq_false_iff_not, Bool.not_eq_false', decide_eq_true_eq] at *)
          · have hq : anyEq (nth l i) (l.take i) = true := by rw [← hg2, hdk (by assumption)]; simp [anyEq, *]
            refine goEnd hw (Pre.refl _) (by simp) (by simp [rs58]; exact rfl) rfl ?_
            rw [← hgo, hd hlt]; simp [rSpecGo, *]
          · refine goLoopN (i - (k + 1)) (by omega) ⟨rfl, k + 1, rfl, by omega, rfl, rfl, rfl, rfl, rfl, rfl, ?_⟩
            rw [← hg2, hdk (by assumption)]; simp [anyEq, *]
          · rename_i hneg
            refine goLoopN (l.length - (i + 1)) (by omega) ⟨rfl, i + 1, rfl, by omega, rfl, rfl, rfl, rfl, ?_⟩
            rw [← hgo, hd hlt, ht hlt]; simp [rSpecGo, hn1, hn2, hneg]
          · have hq : anyEq (nth l i) (l.take i) = false := by rw [← hg2, hdn (by assumption)]; rfl
            refine goLoopN (l.length - (i + 1)) (by omega) ⟨rfl, i + 1, rfl, by omega, rfl, rfl, rfl, rfl, ?_⟩
            rw [← hgo, hd hlt, ht hlt]; simp [rSpecGo, hn1, hn2, hq]
  · cases hv
@[simp] theorem F58_at (a b : AV) (r : Int) (H : Hp) : F58 [a, b, .int .i64 r] H = (ints H a).bind fun sz => (ints H b).map fun sp => .bool (rSpecOK sz sp r) := rfl
end Go.Proofs.Ytokadkakmhfdeaa.Pq
