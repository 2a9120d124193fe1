/- Walks: parts, copies. -/
import Derived.Test.YtokadkakmhfdeaaPqW3
import Derived.Test.YtokadkakmhfdeaaPqV
set_option linter.unusedVariables false
set_option linter.unusedSimpArgs false
namespace Go.Proofs.Ytokadkakmhfdeaa.Pq
open Go.RowKit

def partOf (sz : List Int) (k : Int) : Int := if 0 ≤ k then nth sz k else 1
def rParts (sz sp : List Int) : List Int := if rOK sz = true ∧ rSpecOK sz sp sp.length = true then sp.map (partOf sz) else []
theorem map_take (f : Int → Int) (l : List Int) (i : Nat) (h : i < l.length) : (l.take (i + 1)).map f = (l.take i).map f ++ [f (nth l i)] := by
  rw [take_nth l i h]; simp
def F59 (args : List AV) (H : Hp) : Option (AV × Hp) := match args with
  | [a, b] => (ints H a).bind fun sz => (ints H b).bind fun sp => if sp.length < 1099511627776 then some (mkS H (rParts sz sp)) else none
  | _ => none
theorem rSpecGo_lt {n : Int} : ∀ (l pre : List Int), rSpecGo n pre l = true → ∀ (i : Nat), i < l.length → -1 ≤ nth l i ∧ nth l i < n := by
  intro l
  induction l with
  | nil => intro pre _ i hi; simp at hi
  | cons a l ih =>
    intro pre h i hi
    simp only [rSpecGo] at h
    split at h
    · cases h
    · rename_i h1
      split at h
      · cases h
      · cases i with
        | zero => simp [nth]; omega
        | succ i =>
          have := ih _ h i (by simpa using hi)
          simpa [nth] using this
set_option maxHeartbeats 1000000 in
theorem snd59 : Sound Try.prog 59 (FSem.eff F59).run := by
  refine sound_of hT (EOK_cons snd56 (EOK_cons snd58 (EOK_nil _))) mixed A59 Try.func59 hb59 (by kernel_rfl) (by kernel_rfl) (by kernel_rfl) (by kernel_rfl) sh59 2 (by kernel_rfl) rs59 hr59 ?_
  intro args H r H' hw h
  have hv : F59 args H = some (r, H') := h
  clear h
  unfold F59 at hv
  split at hv
  · rename_i a v
    obtain ⟨sz, hsz, hv⟩ := Option.bind_eq_some_iff.1 hv
    obtain ⟨l, hl, hv⟩ := Option.bind_eq_some_iff.1 hv
    split at hv
    rotate_left
    · cases hv
    rename_i hmax
    replace hv : mkS H (rParts sz l) = (r, H') := Option.some.inj hv
    have hlen := alenS_ints hl
    have hb := ints_len hl
    have hix := aidxS_ints hl .i64
    have hld := fun {H1 : Hp} (he : Pre H H1) => aload_nth T3 rfl (ints_ext he hl)
    have hix2 := aidxS_ints hsz .i64
    have hld2 := fun {H1 : Hp} (he : Pre H H1) => aload_nth T3 rfl (ints_ext he hsz)
    refine ⟨rfl, go ?_⟩
    unfold c59
    simp only [argSl]
    simp only [← aidx22, ← alen22] at hix hix2 hlen
    replace hv := Hide.mk hv
    repeat' (first | apply goSeq | apply goReg | apply goSeqN | apply goSeqR | apply goSkip | apply goRet | apply goNil | apply goBlock | apply goExit | apply goBlkN | apply goBlkR | apply goBlkE | apply goSeqE | apply goLoopR | apply goLoopE | (apply goOp; (· (simp [*]; try exact rfl)); (· exact rfl)) | (apply goOp0; (· (simp [*]; try exact rfl)); (· exact rfl)) | (apply goYes; (· (simp [*]; done)); (· (simp [*]; try exact rfl)); (· exact rfl)) | (apply goNo; (· (simp [*]; done))) | (apply goNoU; (· (simp; exact rfl))) | (apply goIfT; (· (simp [*]; done))) | (apply goIfF; (· (simp [*]; done))) | (apply goIf; (· (simp; exact rfl)); (· with_reducible exact rfl)) | (apply goSplit; (· (simp; exact rfl)); (· with_reducible exact rfl)) | (apply goIfQ; (· (simp; exact rfl)); (· exact rfl)) | (apply goSplitQ; (· (simp; exact rfl)); (· exact rfl)) | (apply goBlkX; (· rfl)) | intro _)
    · refine goEndS hw (Ext.refl hw) (.inl ⟨rfl, rfl⟩) (by simp) (by simp [rs59]) rfl ?_
      rw [← hv.out]
      simp_all [rParts]
    · refine goEndS hw (Ext.refl hw) (.inl ⟨rfl, rfl⟩) (by simp) (by simp [rs59]) rfl ?_
      rw [← hv.out]
      simp_all [rParts]
    · rename_i h1 h2
      have h1' : rOK sz = true := by simpa using h1
      have h2' : rSpecOK sz l l.length = true := by simpa using h2
      have hall : ∀ i : Nat, i < l.length → nth l i < sz.length := by
        intro i hi
        have : rSpecGo sz.length [] l = true := by
          have := h2'
          unfold rSpecOK at this
          rw [if_neg (by simp [h1'])] at this
          exact this
        exact (rSpecGo_lt l [] this i hi).2
      have hres : rParts sz l = l.map (partOf sz) := by simp [rParts, h1', h2']
      rw [hres] at hv
      clear h1 h2 h1' h2' hres
      refine goLoop (fun m s1 H1 => Ext H H1 ∧ ∃ (i : Nat) (u : AV), m = l.length - i ∧ i ≤ l.length ∧ get s1 0 = a ∧ get s1 1 = v ∧ get s1 5 = u ∧ get s1 20 = .int .i64 l.length ∧ get s1 21 = .int .i64 i ∧ Own H H1 u ((l.take i).map (partOf sz))) l.length ?_ ?_
      · exact ⟨Ext.refl hw, 0, .nilS, rfl, Nat.zero_le _, rfl, rfl, rfl, rfl, rfl, .inl ⟨rfl, rfl⟩⟩
      · rintro m s1 H1 ⟨he, i, u, hmm, hi, g1, g2, g3, g4, g5, ho⟩
        simp only [cut_cons, cut_nil, g1, g2, g3, g4, g5]
        clear g1 g2 g3 g4 g5
        have hi0 : (0 : Int) ≤ i := Int.natCast_nonneg i
        have hw1 : w ((i : Int) + 1) = ((i + 1 : Nat) : Int) := w_id (by omega)
        have hl1 := hld he.pre
        have hl2 := hld2 he.pre
        have hlt := hall i
        have hm := map_take (partOf sz) l i
        replace ho := Hide.mk ho
        repeat' (first | apply goSeq | apply goReg | apply goSeqN | apply goSeqR | apply goSkip | apply goRet | apply goNil | apply goBlock | apply goExit | apply goBlkN | apply goBlkR | apply goBlkE | apply goSeqE | apply goLoopR | apply goLoopE | (apply goOp; (· (simp [*]; try exact rfl)); (· exact rfl)) | (apply goOp0; (· (simp [*]; try exact rfl)); (· exact rfl)) | (apply goYes; (· (simp [*]; done)); (· (simp [*]; try exact rfl)); (· exact rfl)) | (apply goNo; (· (simp [*]; done))) | (apply goNoU; (· (simp; exact rfl))) | (apply goIfT; (· (simp [*]; done))) | (apply goIfF; (· (simp [*]; done))) | (apply goIf; (· (simp; exact rfl)); (· with_reducible exact rfl)) | (apply goSplit; (· (simp; exact rfl)); (· with_reducible exact rfl)) | (apply goIfQ; (· (simp; exact rfl)); (· exact rfl)) | (apply goSplitQ; (· (simp; exact rfl)); (· exact rfl)) | (apply goBlkX; (· rfl)) | intro _)
        · rename_i hil hk
          obtain ⟨u', H2, e, ho', he'⟩ := app_own hw he ho.out (by simp; omega) (nth sz (nth l i))
          refine goOp (v := u') (H' := H2) rfl (by simp; exact e) ?_
          repeat' (first | apply goSeq | apply goReg | apply goSeqN | apply goSeqR | apply goSkip | apply goRet | apply goNil | apply goBlock | apply goExit | apply goBlkN | apply goBlkR | apply goBlkE | apply goSeqE | apply goLoopR | apply goLoopE | (apply goOp; (· (simp [*]; try exact rfl)); (· exact rfl)) | (apply goOp0; (· (simp [*]; try exact rfl)); (· exact rfl)) | (apply goYes; (· (simp [*]; done)); (· (simp [*]; try exact rfl)); (· exact rfl)) | (apply goNo; (· (simp [*]; done))) | (apply goNoU; (· (simp; exact rfl))) | (apply goIfT; (· (simp [*]; done))) | (apply goIfF; (· (simp [*]; done))) | (apply goIf; (· (simp; exact rfl)); (· with_reducible exact rfl)) | (apply goSplit; (· (simp; exact rfl)); (· with_reducible exact rfl)) | (apply goIfQ; (· (simp; exact rfl)); (· exact rfl)) | (apply goSplitQ; (· (simp; exact rfl)); (· exact rfl)) | (apply goBlkX; (· rfl)) | intro _)
          exact goLoopN (l.length - (i + 1)) (by omega) ⟨he', i + 1, u', rfl, by omega, rfl, rfl, rfl, rfl, rfl, by rw [hm hil]; simpa [partOf, hk] using ho'⟩
        · rename_i hil hk
          obtain ⟨u', H2, e, ho', he'⟩ := app_own hw he ho.out (by simp; omega) 1
          refine goOp (v := u') (H' := H2) rfl (by simp; exact e) ?_
          repeat' (first | apply goSeq | apply goReg | apply goSeqN | apply goSeqR | apply goSkip | apply goRet | apply goNil | apply goBlock | apply goExit | apply goBlkN | apply goBlkR | apply goBlkE | apply goSeqE | apply goLoopR | apply goLoopE | (apply goOp; (· (simp [*]; try exact rfl)); (· exact rfl)) | (apply goOp0; (· (simp [*]; try exact rfl)); (· exact rfl)) | (apply goYes; (· (simp [*]; done)); (· (simp [*]; try exact rfl)); (· exact rfl)) | (apply goNo; (· (simp [*]; done))) | (apply goNoU; (· (simp; exact rfl))) | (apply goIfT; (· (simp [*]; done))) | (apply goIfF; (· (simp [*]; done))) | (apply goIf; (· (simp; exact rfl)); (· with_reducible exact rfl)) | (apply goSplit; (· (simp; exact rfl)); (· with_reducible exact rfl)) | (apply goIfQ; (· (simp; exact rfl)); (· exact rfl)) | (apply goSplitQ; (· (simp; exact rfl)); (· exact rfl)) | (apply goBlkX; (· rfl)) | intro _)
          exact goLoopN (l.length - (i + 1)) (by omega) ⟨he', i + 1, u', rfl, by omega, rfl, rfl, rfl, rfl, rfl, by rw [hm hil]; simpa [partOf, hk] using ho'⟩
        · rename_i hil
          have : l.take i = l := List.take_of_length_le (by omega)
          refine goEndS hw he ho.out (by simp) (by simp [rs59]) rfl ?_
          rw [← hv.out, this]
  · cases hv
@[simp] theorem F59_at (a b : AV) (H : Hp) : F59 [a, b] H = (ints H a).bind fun sz => (ints H b).bind fun sp => if sp.length < 1099511627776 then some ((mkS H (rParts sz sp)).1, (mkS H (rParts sz sp)).2) else none := rfl

theorem rGo_pos : ∀ (l : List Int) (i : Nat) (n : Int), rGo i n l = true → ∀ (j : Nat), j < l.length → 1 ≤ nth l j ∧ nth l j ≤ 8 := by
  intro l
  induction l with
  | nil => intro i n _ j hj; simp at hj
  | cons a l ih =>
    intro i n h j hj
    simp only [rGo] at h
    split at h
    · cases h
    · rename_i h1
      cases j with
      | zero => simp [nth]; omega
      | succ j =>
        have := ih _ _ h j (by simpa using hj)
        simpa [nth] using this
theorem rSpec_lt {sz sp : List Int} {r : Int} (h1 : rOK sz = true) (h2 : rSpecOK sz sp r = true) : ∀ i : Nat, i < sp.length → -1 ≤ nth sp i ∧ nth sp i < sz.length := by
  unfold rSpecOK at h2
  split at h2
  · cases h2
  · exact rSpecGo_lt sp [] h2
theorem nth_map (f : Int → Int) (l : List Int) (i : Nat) (h : i < l.length) : nth (l.map f) i = f (nth l i) := by
  simp [nth, List.getD_eq_getElem?_getD, h]
theorem rParts_pos {sz sp : List Int} (h1 : rOK sz = true) (h2 : rSpecOK sz sp sp.length = true) : rParts sz sp = sp.map (partOf sz) ∧ ∀ i : Nat, i < (rParts sz sp).length → 1 ≤ nth (rParts sz sp) i := by
  have e : rParts sz sp = sp.map (partOf sz) := by simp [rParts, h1, h2]
  refine ⟨e, fun i hi => ?_⟩
  rw [e] at hi ⊢
  simp at hi
  rw [nth_map _ _ _ hi]
  unfold partOf
  split
  · rename_i h0
    have h3 := (rSpec_lt h1 h2 i hi).2
    have := (rGo_pos sz 0 1 h1 (nth sp i).toNat (by omega)).1
    rwa [Int.toNat_of_nonneg h0] at this
  · omega

def divW : Int → List Int → Int
  | n, [] => n
  | n, k :: l => divW (w (n.tdiv k)) l
def rCopies (sz sp : List Int) : Int := if rOK sz = true ∧ rSpecOK sz sp sp.length = true then divW (rDevs sz) (rParts sz sp) else 0
def F23 (args : List AV) (H : Hp) : Option AV := match args with
  | [a, b] => (ints H a).bind fun sz => (ints H b).bind fun sp => if sp.length < 1099511627776 then some (.int .i64 (rCopies sz sp)) else none
  | _ => none
set_option maxHeartbeats 1000000 in
theorem snd23 : Sound Try.prog 23 (FSem.pure F23).run := by
  refine sound_of hT (EOK_cons snd56 (EOK_cons snd58 (EOK_cons snd20 (EOK_cons snd59 (EOK_nil _))))) mixed A23 Try.func23 hb23 (by kernel_rfl) (by kernel_rfl) (by kernel_rfl) (by kernel_rfl) sh23 2 (by kernel_rfl) rs23 hr23 ?_
  intro args H r H' hw h
  obtain ⟨rfl, hv⟩ := pureAt h
  clear h
  unfold F23 at hv
  split at hv
  · rename_i a v
    obtain ⟨sz, hsz, hv⟩ := Option.bind_eq_some_iff.1 hv
    obtain ⟨l, hl, hv⟩ := Option.bind_eq_some_iff.1 hv
    split at hv
    rotate_left
    · cases hv
    rename_i hmax
    replace hv : AV.int .i64 (rCopies sz l) = r := Option.some.inj hv
    subst hv
    have hlen := alenS_ints hl
    have hP := mkS_ext hw (rParts sz l)
    have hpl : (rParts sz l).length ≤ l.length := by unfold rParts; split <;> simp
    have hpi := ints_of_own (mkS_own H' (rParts sz l)) (by omega)
    have hlen3 := alenS_ints hpi
    have hix3 := aidxS_ints hpi .i64
    have hld3 := aload_nth T3 rfl hpi
    refine ⟨rfl, go ?_⟩
    unfold c23
    simp only [argSl]
    simp only [← aidx22, ← alen22] at hix3 hlen hlen3
    replace hP := Hide.mk hP
    replace hpi := Hide.mk hpi
    repeat' (first | apply goSeq | apply goReg | apply goSeqN | apply goSeqR | apply goSkip | apply goRet | apply goNil | apply goBlock | apply goExit | apply goBlkN | apply goBlkR | apply goBlkE | apply goSeqE | apply goLoopR | apply goLoopE | (apply goOp; (· (simp [*]; try exact rfl)); (· exact rfl)) | (apply goOp0; (· (simp [*]; try exact rfl)); (· exact rfl)) | (apply goYes; (· (simp [*]; done)); (· (simp [*]; try exact rfl)); (· exact rfl)) | (apply goNo; (· (simp [*]; done))) | (apply goNoU; (· (simp; exact rfl))) | (apply goIfT; (· (simp [*]; done))) | (apply goIfF; (· (simp [*]; done))) | (apply goIf; (· (simp; exact rfl)); (· with_reducible exact rfl)) | (apply goSplit; (· (simp; exact rfl)); (· with_reducible exact rfl)) | (apply goIfQ; (· (simp; exact rfl)); (· exact rfl)) | (apply goSplitQ; (· (simp; exact rfl)); (· exact rfl)) | (apply goBlkX; (· rfl)) | intro _)
    · refine goEnd hw (Pre.refl _) (by simp) (by simp [rs23]; exact rfl) rfl ?_
      simp_all [rCopies]
    · refine goEnd hw (Pre.refl _) (by simp) (by simp [rs23]; exact rfl) rfl ?_
      simp_all [rCopies]
    · rename_i h1 h2
      have h1' : rOK sz = true := by simpa using h1
      have h2' : rSpecOK sz l l.length = true := by simpa using h2
      have hpos := (rParts_pos h1' h2').2
      have hres : rCopies sz l = divW (rDevs sz) (rParts sz l) := by simp [rCopies, h1', h2']
      rw [hres]
      clear hres h1 h2
      generalize hL : rParts sz l = L at *
      refine goLoop (fun m s1 H1 => H1 = (mkS H' L).2 ∧ ∃ (i : Nat) (n : Int), m = L.length - i ∧ i ≤ L.length ∧ get s1 5 = .int .i64 n ∧ get s1 23 = (mkS H' L).1 ∧ get s1 24 = .int .i64 L.length ∧ get s1 25 = .int .i64 i ∧ divW n (L.drop i) = divW (rDevs sz) L) L.length ?_ ?_
      · exact ⟨rfl, 0, _, rfl, Nat.zero_le _, rfl, rfl, rfl, rfl, rfl⟩
      · rintro m s1 H1 ⟨rfl, i, n, hmm, hi, g1, g2, g3, g4, hgo⟩
        simp only [cut_cons, cut_nil, g1, g2, g3, g4]
        clear g1 g2 g3 g4
        have hi0 : (0 : Int) ≤ i := Int.natCast_nonneg i
        have hw1 : w ((i : Int) + 1) = ((i + 1 : Nat) : Int) := w_id (by omega)
        have hd := fun h => drop_nth L i h
        have hnil : ¬ i < L.length → L.drop i = [] := fun h => List.drop_of_length_le (by omega)
        have hp0 : i < L.length → ¬ nth L i = 0 := fun h => by have := hpos i h; omega
        replace hgo := Hide.mk hgo
        repeat' (first | apply goSeq | apply goReg | apply goSeqN | apply goSeqR | apply goSkip | apply goRet | apply goNil | apply goBlock | apply goExit | apply goBlkN | apply goBlkR | apply goBlkE | apply goSeqE | apply goLoopR | apply goLoopE | (apply goOp; (· (simp [*]; try exact rfl)); (· exact rfl)) | (apply goOp0; (· (simp [*]; try exact rfl)); (· exact rfl)) | (apply goYes; (· (simp [*]; done)); (· (simp [*]; try exact rfl)); (· exact rfl)) | (apply goNo; (· (simp [*]; done))) | (apply goNoU; (· (simp; exact rfl))) | (apply goIfT; (· (simp [*]; done))) | (apply goIfF; (· (simp [*]; done))) | (apply goIf; (· (simp; exact rfl)); (· with_reducible exact rfl)) | (apply goSplit; (· (simp; exact rfl)); (· with_reducible exact rfl)) | (apply goIfQ; (· (simp; exact rfl)); (· exact rfl)) | (apply goSplitQ; (· (simp; exact rfl)); (· exact rfl)) | (apply goBlkX; (· rfl)) | intro _)
        all_goals replace hgo := hgo.out
        all_goals first
          | (refine goEnd hw hP.out.pre (by simp) (by simp [rs23]; exact rfl) rfl ?_; rw [← hgo]; simp [divW, hd, hnil, *]; done)
          | (refine goLoopN (L.length - (i + 1)) (by omega) ⟨rfl, i + 1, _, rfl, by omega, rfl, rfl, rfl, rfl, ?_⟩; rw [← hgo]; simp [divW, hd, *])
  · cases hv
@[simp] theorem F23_at (a b : AV) (H : Hp) : F23 [a, b] H = (ints H a).bind fun sz => (ints H b).bind fun sp => if sp.length < 1099511627776 then some (.int .i64 (rCopies sz sp)) else none := rfl
end Go.Proofs.Ytokadkakmhfdeaa.Pq
