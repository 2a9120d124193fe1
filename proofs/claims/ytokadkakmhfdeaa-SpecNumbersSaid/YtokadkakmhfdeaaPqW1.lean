/- Walks: numbers and lengths. -/
import Derived.Test.YtokadkakmhfdeaaPqC1
import Derived.Test.YtokadkakmhfdeaaPqU
import Derived.Eval
set_option linter.unusedVariables false
set_option linter.unusedSimpArgs false
namespace Go.Proofs.Ytokadkakmhfdeaa.Pq
open Go.RowKit

theorem mixed : Try.prog.follows .mixedOrders = true := by kernel_rfl

def within (n lo hi : Int) : Int :=
  if lo ≤ n ∧ n ≤ hi then n else
  w (lo + (if n.tmod (w (w (hi - lo) + 1)) < 0 then w (w (w (n.tmod (w (w (hi - lo) + 1)) + hi) - lo) + 1) else n.tmod (w (w (hi - lo) + 1))))
def F45 (args : List AV) (_ : Hp) : Option AV := match args with
  | [.int .i64 n, .int .i64 lo, .int .i64 hi] => if w (w (hi - lo) + 1) = 0 then none else some (.int .i64 (within n lo hi))
  | _ => none
theorem snd45 : Sound Try.prog 45 (FSem.pure F45).run := by
  refine sound_of hT (EOK_nil _) mixed A45 Try.func45 hb45 (by kernel_rfl) (by kernel_rfl) (by kernel_rfl) (by kernel_rfl) sh45 3 (by kernel_rfl) rs45 hr45 ?_
  intro args H r H' hw h
  obtain ⟨rfl, hv⟩ := pureAt h
  clear h
  unfold F45 at hv
  split at hv
  · split at hv
    · cases hv
    · cases hv
      refine ⟨rfl, go ?_⟩
      unfold c45
      simp only [argSl]
      repeat' (first | apply goSeq | apply goReg | apply goSeqN | apply goSeqR | apply goSkip | apply goRet | apply goNil | apply goBlock | apply goExit | apply goBlkN | apply goBlkR | apply goBlkE | apply goSeqE | apply goLoopR | apply goLoopE | (apply goOp; (· (simp [*]; try exact rfl)); (· exact rfl)) | (apply goOp0; (· (simp [*]; try exact rfl)); (· exact rfl)) | (apply goYes; (· (simp [*]; done)); (· (simp [*]; try exact rfl)); (· exact rfl)) | (apply goNo; (· (simp [*]; done))) | (apply goNoU; (· (simp; exact rfl))) | (apply goIfT; (· (simp [*]; done))) | (apply goIfF; (· (simp [*]; done))) | (apply goIf; (· (simp; exact rfl)); (· with_reducible exact rfl)) | (apply goSplit; (· (simp; exact rfl)); (· with_reducible exact rfl)) | (apply goIfQ; (· (simp; exact rfl)); (· exact rfl)) | (apply goSplitQ; (· (simp; exact rfl)); (· exact rfl)) | (apply goBlkX; (· rfl)) | intro _)
      all_goals (refine goEnd hw (Pre.refl _) (by simp) (by simp [rs45]; exact rfl) rfl ?_; simp [within, *])
  · cases hv

def width (n k : Int) : Int := if n < 0 ∨ k < 1 then 0 else if n = 0 then 0 else w (w ((w (n - 1)).tdiv k) + 1)
def F61 (args : List AV) (_ : Hp) : Option AV := match args with
  | [.int .i64 n, .int .i64 k] => some (.int .i64 (width n k))
  | _ => none
theorem snd61 : Sound Try.prog 61 (FSem.pure F61).run := by
  refine sound_of hT (EOK_nil _) mixed A61 Try.func61 hb61 (by kernel_rfl) (by kernel_rfl) (by kernel_rfl) (by kernel_rfl) sh61 2 (by kernel_rfl) rs61 hr61 ?_
  intro args H r H' hw h
  obtain ⟨rfl, hv⟩ := pureAt h
  clear h
  unfold F61 at hv
  split at hv
  · rename_i n k
    cases hv
    have hk : ¬ k < 1 → ¬ k = 0 := by omega
    refine ⟨rfl, go ?_⟩
    unfold c61
    simp only [argSl]
    repeat' (first | apply goSeq | apply goReg | apply goSeqN | apply goSeqR | apply goSkip | apply goRet | apply goNil | apply goBlock | apply goExit | apply goBlkN | apply goBlkR | apply goBlkE | apply goSeqE | apply goLoopR | apply goLoopE | (apply goOp; (· (simp [*]; try exact rfl)); (· exact rfl)) | (apply goOp0; (· (simp [*]; try exact rfl)); (· exact rfl)) | (apply goYes; (· (simp [*]; done)); (· (simp [*]; try exact rfl)); (· exact rfl)) | (apply goNo; (· (simp [*]; done))) | (apply goNoU; (· (simp; exact rfl))) | (apply goIfT; (· (simp [*]; done))) | (apply goIfF; (· (simp [*]; done))) | (apply goIf; (· (simp; exact rfl)); (· with_reducible exact rfl)) | (apply goSplit; (· (simp; exact rfl)); (· with_reducible exact rfl)) | (apply goIfQ; (· (simp; exact rfl)); (· exact rfl)) | (apply goSplitQ; (· (simp; exact rfl)); (· exact rfl)) | (apply goBlkX; (· rfl)) | intro _)
    all_goals (refine goEnd hw (Pre.refl _) (by simp) (by simp [rs61]; exact rfl) rfl ?_; simp [width, *])
  · cases hv

def times (a i m : Int) : Int := if 0 < a ∧ w (m.tdiv a) < i then m else if w (a * i) ≤ m then w (a * i) else m
def F124 (args : List AV) (_ : Hp) : Option AV := match args with
  | [.int .i64 a, .int .i64 i, .int .i64 m] => some (.int .i64 (times a i m))
  | _ => none
theorem snd124 : Sound Try.prog 124 (FSem.pure F124).run := by
  refine sound_of hT (EOK_nil _) mixed A124 Try.func124 hb124 (by kernel_rfl) (by kernel_rfl) (by kernel_rfl) (by kernel_rfl) sh124 3 (by kernel_rfl) rs124 hr124 ?_
  intro args H r H' hw h
  obtain ⟨rfl, hv⟩ := pureAt h
  clear h
  unfold F124 at hv
  split at hv
  · rename_i a i m
    cases hv
    have hk : 0 < a → ¬ a = 0 := by omega
    refine ⟨rfl, go ?_⟩
    unfold c124
    simp only [argSl]
    repeat' (first | apply goSeq | apply goReg | apply goSeqN | apply goSeqR | apply goSkip | apply goRet | apply goNil | apply goBlock | apply goExit | apply goBlkN | apply goBlkR | apply goBlkE | apply goSeqE | apply goLoopR | apply goLoopE | (apply goOp; (· (simp [*]; try exact rfl)); (· exact rfl)) | (apply goOp0; (· (simp [*]; try exact rfl)); (· exact rfl)) | (apply goYes; (· (simp [*]; done)); (· (simp [*]; try exact rfl)); (· exact rfl)) | (apply goNo; (· (simp [*]; done))) | (apply goNoU; (· (simp; exact rfl))) | (apply goIfT; (· (simp [*]; done))) | (apply goIfF; (· (simp [*]; done))) | (apply goIf; (· (simp; exact rfl)); (· with_reducible exact rfl)) | (apply goSplit; (· (simp; exact rfl)); (· with_reducible exact rfl)) | (apply goIfQ; (· (simp; exact rfl)); (· exact rfl)) | (apply goSplitQ; (· (simp; exact rfl)); (· exact rfl)) | (apply goBlkX; (· rfl)) | intro _)
    all_goals (refine goEnd hw (Pre.refl _) (by simp) (by simp [rs124]; exact rfl) rfl ?_; simp [times, *])
  · cases hv

def cut (n k i : Int) : Int × Int := if width n k = 0 ∨ i < 0 ∨ k ≤ i then (0, 0) else (times (width n k) i n, times (width n k) (w (i + 1)) n)
def F60 (args : List AV) (_ : Hp) : Option AV := match args with
  | [.int .i64 n, .int .i64 k, .int .i64 i] => some (.tup [.int .i64 (cut n k i).1, .int .i64 (cut n k i).2])
  | _ => none
theorem snd60 : Sound Try.prog 60 (FSem.pure F60).run := by
  refine sound_of hT (EOK_cons snd61 (EOK_cons snd124 (EOK_nil _))) mixed A60 Try.func60 hb60 (by kernel_rfl) (by kernel_rfl) (by kernel_rfl) (by kernel_rfl) sh60 3 (by kernel_rfl) rs60 hr60 ?_
  intro args H r H' hw h
  obtain ⟨rfl, hv⟩ := pureAt h
  clear h
  unfold F60 at hv
  split at hv
  · rename_i n k i
    cases hv
    have e1 : ∀ a b H, F61 [.int .i64 a, .int .i64 b] H = some (.int .i64 (width a b)) := fun _ _ _ => rfl
    have e2 : ∀ a b c H, F124 [.int .i64 a, .int .i64 b, .int .i64 c] H = some (.int .i64 (times a b c)) := fun _ _ _ _ => rfl
    refine ⟨rfl, go ?_⟩
    unfold c60
    simp only [argSl]
    repeat' (first | apply goSeq | apply goReg | apply goSeqN | apply goSeqR | apply goSkip | apply goRet | apply goNil | apply goBlock | apply goExit | apply goBlkN | apply goBlkR | apply goBlkE | apply goSeqE | apply goLoopR | apply goLoopE | (apply goOp; (· (simp [*]; try exact rfl)); (· exact rfl)) | (apply goOp0; (· (simp [*]; try exact rfl)); (· exact rfl)) | (apply goYes; (· (simp [*]; done)); (· (simp [*]; try exact rfl)); (· exact rfl)) | (apply goNo; (· (simp [*]; done))) | (apply goNoU; (· (simp; exact rfl))) | (apply goIfT; (· (simp [*]; done))) | (apply goIfF; (· (simp [*]; done))) | (apply goIf; (· (simp; exact rfl)); (· with_reducible exact rfl)) | (apply goSplit; (· (simp; exact rfl)); (· with_reducible exact rfl)) | (apply goIfQ; (· (simp; exact rfl)); (· exact rfl)) | (apply goSplitQ; (· (simp; exact rfl)); (· exact rfl)) | (apply goBlkX; (· rfl)) | intro _)
    all_goals (refine goEnd hw (Pre.refl _) (by simp) (by simp [rs60]; exact rfl) rfl ?_; simp [cut, *])
  · cases hv

theorem aidx22 (v i : AV) : aidx T 22 v i = aidxS 1 v i := by simp [aidx, D22, T3]
theorem alen22 (v : AV) : alen T 22 v = alenS v := by simp [alen, D22]
def meshGo : Int → List Int → Bool
  | n, [] => decide (n ≤ 8)
  | n, k :: l => if k < 1 ∨ 8 < k then false else meshGo (w (n * k)) l
def meshOK (l : List Int) : Bool := if 3 < l.length then false else meshGo 1 l
def F89 (args : List AV) (H : Hp) : Option AV := match args with
  | [v] => (ints H v).map fun l => .bool (meshOK l)
  | _ => none
theorem snd89 : Sound Try.prog 89 (FSem.pure F89).run := by
  refine sound_of hT (EOK_nil _) mixed A89 Try.func89 hb89 (by kernel_rfl) (by kernel_rfl) (by kernel_rfl) (by kernel_rfl) sh89 1 (by kernel_rfl) rs89 hr89 ?_
  intro args H r H' hw h
  obtain ⟨rfl, hv⟩ := pureAt h
  clear h
  unfold F89 at hv
  split at hv
  · rename_i v
    obtain ⟨l, hl, hv⟩ := Option.map_eq_some_iff.1 hv
    cases hv
    have hlen := alenS_ints hl
    have hb := ints_len hl
    have hix := aidxS_ints hl .i64
    have hld := aload_nth T3 rfl hl
    refine ⟨rfl, go ?_⟩
    unfold c89
    simp only [argSl]
    simp only [← aidx22, ← alen22] at hix hlen
    repeat' (first | apply goSeq | apply goReg | apply goSeqN | apply goSeqR | apply goSkip | apply goRet | apply goNil | apply goBlock | apply goExit | apply goBlkN | apply goBlkR | apply goBlkE | apply goSeqE | apply goLoopR | apply goLoopE | (apply goOp; (· (simp [*]; try exact rfl)); (· exact rfl)) | (apply goOp0; (· (simp [*]; try exact rfl)); (· exact rfl)) | (apply goYes; (· (simp [*]; done)); (· (simp [*]; try exact rfl)); (· exact rfl)) | (apply goNo; (· (simp [*]; done))) | (apply goNoU; (· (simp; exact rfl))) | (apply goIfT; (· (simp [*]; done))) | (apply goIfF; (· (simp [*]; done))) | (apply goIf; (· (simp; exact rfl)); (· with_reducible exact rfl)) | (apply goSplit; (· (simp; exact rfl)); (· with_reducible exact rfl)) | (apply goIfQ; (· (simp; exact rfl)); (· exact rfl)) | (apply goSplitQ; (· (simp; exact rfl)); (· exact rfl)) | (apply goBlkX; (· rfl)) | intro _)
    · rename_i h3
      have h3' : 3 < l.length := by omega
      refine goEnd hw (Pre.refl _) (by simp) (by simp [rs89]; exact rfl) rfl ?_
      simp [meshOK, h3']
    · rename_i h3
      have h3' : ¬ 3 < l.length := by omega
      refine goLoop (fun m s1 H1 => H1 = H' ∧ ∃ (i : Nat) (n : Int), m = l.length - i ∧ i ≤ l.length ∧ get s1 3 = .int .i64 n ∧ get s1 9 = v ∧ get s1 10 = .int .i64 l.length ∧ get s1 11 = .int .i64 i ∧ meshGo n (l.drop i) = meshOK l) l.length ?_ ?_
      · exact ⟨rfl, 0, 1, rfl, Nat.zero_le _, rfl, rfl, rfl, rfl, by simp [meshOK, h3']⟩
      · rintro m s1 H1 ⟨rfl, i, n, hm, hi, g3, g9, g10, g11, hgo⟩
        simp only [cut_cons, cut_nil, g3, g9, g10, g11]
        have hi0 : (0 : Int) ≤ i := Int.natCast_nonneg i
        have hd := fun h => drop_nth l i h
        have hnil : ¬ i < l.length → l.drop i = [] := fun h => List.drop_of_length_le (by omega)
        have hw1 : w ((i : Int) + 1) = ((i + 1 : Nat) : Int) := w_id (by omega)
        clear g3 g9 g10 g11
        repeat' (first | apply goSeq | apply goReg | apply goSeqN | apply goSeqR | apply goSkip | apply goRet | apply goNil | apply goBlock | apply goExit | apply goBlkN | apply goBlkR | apply goBlkE | apply goSeqE | apply goLoopR | apply goLoopE | (apply goOp; (· (simp [*]; try exact rfl)); (· exact rfl)) | (apply goOp0; (· (simp [*]; try exact rfl)); (· exact rfl)) | (apply goYes; (· (simp [*]; done)); (· (simp [*]; try exact rfl)); (· exact rfl)) | (apply goNo; (· (simp [*]; done))) | (apply goNoU; (· (simp; exact rfl))) | (apply goIfT; (· (simp [*]; done))) | (apply goIfF; (· (simp [*]; done))) | (apply goIf; (· (simp; exact rfl)); (· with_reducible exact rfl)) | (apply goSplit; (· (simp; exact rfl)); (· with_reducible exact rfl)) | (apply goIfQ; (· (simp; exact rfl)); (· exact rfl)) | (apply goSplitQ; (· (simp; exact rfl)); (· exact rfl)) | (apply goBlkX; (· rfl)) | intro _)
        all_goals first
          | (refine goEnd hw (Pre.refl _) (by simp) (by simp [rs89]; exact rfl) rfl ?_; rw [← hgo]; simp [meshGo, hd, hnil, *]; done)
          | (refine goLoopN (l.length - (i + 1)) (by omega) ⟨rfl, i + 1, _, rfl, by omega, rfl, rfl, rfl, rfl, ?_⟩; rw [← hgo]; simp [meshGo, hd, *])
  · cases hv
end Go.Proofs.Ytokadkakmhfdeaa.Pq
