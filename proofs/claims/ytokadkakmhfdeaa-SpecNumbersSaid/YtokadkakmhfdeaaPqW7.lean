/- Walks: how long parts are. -/
import Derived.Test.YtokadkakmhfdeaaPqW6
set_option linter.unusedVariables false
set_option linter.unusedSimpArgs false
namespace Go.Proofs.Ytokadkakmhfdeaa.Pq
open Go.RowKit

def pth (l : List (Int × Int)) (j : Int) : Int × Int := l.getD j.toNat (0, 0)
theorem enc_at : ∀ (l : List (Int × Int)) (i : Nat), i < l.length → ((enc l).drop (i * 2)).take 2 = pr (pth l i) := by
  intro l
  induction l with
  | nil => intro i h; simp at h
  | cons a l ih =>
    intro i h
    cases i with
    | zero => simp [enc, pr, pth]
    | succ i =>
      have := ih i (by simpa using h)
      rw [show (i + 1) * 2 = i * 2 + 2 by omega]
      simpa [enc, pr, pth] using this
theorem own_load86 {H0 H H1 : Hp} {v : AV} {l : List (Int × Int)} (h : OwnG 2 H0 H v l.length (enc l)) (he : Pre H H1) (j : Int) (h0 : 0 ≤ j) (hj : j < l.length) : aload T 86 (pAt v j) H1 = some (.agg [.int .i64 (pth l j).1, .int .i64 (pth l j).2]) := by
  rcases h with ⟨h1, rfl, _⟩ | ⟨b, ver, rfl, _, _, hlen, hk⟩
  · omega
  · have hk' := he.at hk
    obtain ⟨i, rfl⟩ : ∃ i : Nat, j = i := ⟨j.toNat, by omega⟩
    have hi : i < l.length := by omega
    simp only [aload, T86, pAt, hk', Int.toNat_natCast, Nat.zero_add]
    rw [if_pos (by omega), enc_at l i hi]
    rfl
open Classical in
noncomputable def cutsL (s sz sp : List Int) (d : Int) : List (Int × Int) := if mayCut s sz sp d then cutsGo s sz (meshAt sz d) sp sp.length else []
open Classical in
theorem cutsF_eq (H : Hp) (s sz sp : List Int) (d : Int) : cutsF H s sz sp d = (.tup [(mkG H 2 (cutsL s sz sp d).length (enc (cutsL s sz sp d))).1, .bool (decide (mayCut s sz sp d))], (mkG H 2 (cutsL s sz sp d).length (enc (cutsL s sz sp d))).2) := by
  unfold cutsF cutsL
  by_cases h : mayCut s sz sp d
  · simp [h, cutsGo_len]
  · simp [h, mkG]
open Classical in
@[simp] theorem F57_at (a b c : AV) (d : Int) (H : Hp) : F57 [a, b, c, .int .i64 d] H = (ints H a).bind fun s => (ints H b).bind fun sz => (ints H c).map fun sp => (.tup [(mkG H 2 (cutsL s sz sp d).length (enc (cutsL s sz sp d))).1, .bool (decide (mayCut s sz sp d))], (mkG H 2 (cutsL s sz sp d).length (enc (cutsL s sz sp d))).2) := by
  simp only [F57, cutsF_eq]
theorem cutsL_len (s sz sp : List Int) (d : Int) : (cutsL s sz sp d).length ≤ 4 := by
  unfold cutsL
  split
  · rename_i h
    rw [cutsGo_len]
    have h1 := h.1
    have h2 := (specOK_lt h.2.1).1
    unfold shapeOK at h1
    split at h1
    · cases h1
    · omega
  · simp
theorem map_takeP (f : Int × Int → Int) (l : List (Int × Int)) (i : Nat) (h : i < l.length) : (l.take (i + 1)).map f = (l.take i).map f ++ [f (pth l i)] := by
  rw [List.take_add_one, List.getElem?_eq_getElem h, List.map_append]
  simp [pth, List.getD_eq_getElem?_getD, h]

noncomputable def sizeL (s sz sp : List Int) (d : Int) : List Int := (cutsL s sz sp d).map fun p => w (p.2 - p.1)
noncomputable def F21 (args : List AV) (H : Hp) : Option (AV × Hp) := match args with
  | [a, b, c, .int .i64 d] => (ints H a).bind fun s => (ints H b).bind fun sz => (ints H c).map fun sp => mkS H (sizeL s sz sp d)
  | _ => none
set_option maxHeartbeats 1000000 in
theorem snd21 : Sound Try.prog 21 (FSem.eff F21).run := by
  refine sound_of hT (EOK_cons snd57 (EOK_nil _)) mixed A21 Try.func21 hb21 (by kernel_rfl) (by kernel_rfl) (by kernel_rfl) (by kernel_rfl) sh21 4 (by kernel_rfl) rs21 hr21 ?_
  intro args H r H' hw h
  have hv : F21 args H = some (r, H') := h
  clear h
  unfold F21 at hv
  split at hv
  · rename_i a b c d
    obtain ⟨s, hs, hv⟩ := Option.bind_eq_some_iff.1 hv
    obtain ⟨sz, hsz, hv⟩ := Option.bind_eq_some_iff.1 hv
    obtain ⟨sp, hsp, hv⟩ := Option.map_eq_some_iff.1 hv
    have hl4 := cutsL_len s sz sp d
    have hAe := mkG_ext hw 2 (cutsL s sz sp d).length (enc (cutsL s sz sp d))
    have hAo := mkG_own H 2 (cutsL s sz sp d).length (enc (cutsL s sz sp d)) (enc_len _)
    have hl := own_len hAo
    have hix := own_idx hAo .i64
    have hld := fun {H1 : Hp} (he : Pre _ H1) => own_load86 hAo he
    simp only [← alen83, ← aidx83] at hl hix
    unfold sizeL at hv
    refine ⟨rfl, go ?_⟩
    unfold c21
    simp only [argSl]
    replace hv := Hide.mk hv
    replace hAe := Hide.mk hAe
    replace hAo := Hide.mk hAo
    repeat' (first | apply goSeq | apply goReg | apply goSeqN | apply goSeqR | apply goSkip | apply goRet | apply goNil | apply goBlock | apply goExit | apply goBlkN | apply goBlkR | apply goBlkE | apply goSeqE | apply goLoopR | apply goLoopE | (apply goOp; (· (simp [*]; try exact rfl)); (· exact rfl)) | (apply goOp0; (· (simp [*]; try exact rfl)); (· exact rfl)) | (apply goYes; (· (simp [*]; done)); (· (simp [*]; try exact rfl)); (· exact rfl)) | (apply goNo; (· (simp [*]; done))) | (apply goNoU; (· (simp; exact rfl))) | (apply goIfT; (· (simp [*]; done))) | (apply goIfF; (· (simp [*]; done))) | (apply goIf; (· (simp; exact rfl)); (· with_reducible exact rfl)) | (apply goSplit; (· (simp; exact rfl)); (· with_reducible exact rfl)) | (apply goIfQ; (· (simp; exact rfl)); (· exact rfl)) | (apply goSplitQ; (· (simp; exact rfl)); (· exact rfl)) | (apply goBlkX; (· rfl)) | intro _)
    generalize hL : cutsL s sz sp d = L at *
    generalize hA : (mkG H 2 L.length (enc L)).2 = HA at *
    generalize hu : (mkG H 2 L.length (enc L)).1 = u0 at *
    have hAe := hAe.out
    refine goLoop (fun m s1 H1 => Ext HA H1 ∧ ∃ (i : Nat) (u : AV), m = L.length - i ∧ i ≤ L.length ∧ get s1 11 = u ∧ get s1 22 = u0 ∧ get s1 23 = .int .i64 L.length ∧ get s1 24 = .int .i64 i ∧ Own HA H1 u ((L.take i).map fun p => w (p.2 - p.1))) L.length ?_ ?_
    · exact ⟨Ext.refl hAe.wf, 0, .nilS, rfl, Nat.zero_le _, rfl, rfl, rfl, rfl, .inl ⟨rfl, rfl⟩⟩
    · rintro m s1 H1 ⟨he, i, u, hmm, hi, g1, g2, g3, g4, ho⟩
      simp only [cut_cons, cut_nil, g1, g2, g3, g4]
      clear g1 g2 g3 g4
      have hi0 : (0 : Int) ≤ i := Int.natCast_nonneg i
      have hw1 : w ((i : Int) + 1) = ((i + 1 : Nat) : Int) := w_id (by omega)
      have l1 := hld he.pre
      have hm := map_takeP (fun p => w (p.2 - p.1)) L i
      replace ho := Hide.mk ho
      replace hm := Hide.mk hm
      repeat' (first | apply goSeq | apply goReg | apply goSeqN | apply goSeqR | apply goSkip | apply goRet | apply goNil | apply goBlock | apply goExit | apply goBlkN | apply goBlkR | apply goBlkE | apply goSeqE | apply goLoopR | apply goLoopE | (apply goOp; (· (simp [*]; try exact rfl)); (· exact rfl)) | (apply goOp0; (· (simp [*]; try exact rfl)); (· exact rfl)) | (apply goYes; (· (simp [*]; done)); (· (simp [*]; try exact rfl)); (· exact rfl)) | (apply goNo; (· (simp [*]; done))) | (apply goNoU; (· (simp; exact rfl))) | (apply goIfT; (· (simp [*]; done))) | (apply goIfF; (· (simp [*]; done))) | (apply goIf; (· (simp; exact rfl)); (· with_reducible exact rfl)) | (apply goSplit; (· (simp; exact rfl)); (· with_reducible exact rfl)) | (apply goIfQ; (· (simp; exact rfl)); (· exact rfl)) | (apply goSplitQ; (· (simp; exact rfl)); (· exact rfl)) | (apply goBlkX; (· rfl)) | intro _)
      · rename_i hil
        obtain ⟨u', H2, e, ho', he'⟩ := app_own hAe.wf (he.new [.int .i64 (pth L i).1, .int .i64 (pth L i).2]) (ho.out.new _) (by simp; omega) (w ((pth L i).2 - (pth L i).1))
        refine goOp (v := u') (H' := H2) rfl (by simp; exact e) ?_
        clear e
        replace ho' := Hide.mk ho'
        repeat' (first | apply goSeq | apply goReg | apply goSeqN | apply goSeqR | apply goSkip | apply goRet | apply goNil | apply goBlock | apply goExit | apply goBlkN | apply goBlkR | apply goBlkE | apply goSeqE | apply goLoopR | apply goLoopE | (apply goOp; (· (simp [*]; try exact rfl)); (· exact rfl)) | (apply goOp0; (· (simp [*]; try exact rfl)); (· exact rfl)) | (apply goYes; (· (simp [*]; done)); (· (simp [*]; try exact rfl)); (· exact rfl)) | (apply goNo; (· (simp [*]; done))) | (apply goNoU; (· (simp; exact rfl))) | (apply goIfT; (· (simp [*]; done))) | (apply goIfF; (· (simp [*]; done))) | (apply goIf; (· (simp; exact rfl)); (· with_reducible exact rfl)) | (apply goSplit; (· (simp; exact rfl)); (· with_reducible exact rfl)) | (apply goIfQ; (· (simp; exact rfl)); (· exact rfl)) | (apply goSplitQ; (· (simp; exact rfl)); (· exact rfl)) | (apply goBlkX; (· rfl)) | intro _)
        exact goLoopN (L.length - (i + 1)) (by omega) ⟨he', i + 1, u', rfl, by omega, rfl, rfl, rfl, rfl, by rw [hm.out hil]; exact ho'.out⟩
      · have : L.take i = L := List.take_of_length_le (by omega)
        refine goEndS hw (hAe.trans he) (ho.out.old hAe.c) (by simp) (by simp [rs21]) rfl ?_
        rw [← hv.out, this]
  · cases hv
@[simp] theorem F21_at (a b c : AV) (d : Int) (H : Hp) : F21 [a, b, c, .int .i64 d] H = (ints H a).bind fun s => (ints H b).bind fun sz => (ints H c).map fun sp => ((mkS H (sizeL s sz sp d)).1, (mkS H (sizeL s sz sp d)).2) := rfl
theorem sizeL_len (s sz sp : List Int) (d : Int) : (sizeL s sz sp d).length ≤ 4 := by simp only [sizeL, List.length_map]; exact cutsL_len s sz sp d

noncomputable def fromL (s sz sp : List Int) (d : Int) : List Int := (cutsL s sz sp d).map fun p => p.1
noncomputable def F22 (args : List AV) (H : Hp) : Option (AV × Hp) := match args with
  | [a, b, c, .int .i64 d] => (ints H a).bind fun s => (ints H b).bind fun sz => (ints H c).map fun sp => mkS H (fromL s sz sp d)
  | _ => none
set_option maxHeartbeats 1000000 in
theorem snd22 : Sound Try.prog 22 (FSem.eff F22).run := by
  refine sound_of hT (EOK_cons snd57 (EOK_nil _)) mixed A22 Try.func22 hb22 (by kernel_rfl) (by kernel_rfl) (by kernel_rfl) (by kernel_rfl) sh22 4 (by kernel_rfl) rs22 hr22 ?_
  intro args H r H' hw h
  have hv : F22 args H = some (r, H') := h
  clear h
  unfold F22 at hv
  split at hv
  · rename_i a b c d
    obtain ⟨s, hs, hv⟩ := Option.bind_eq_some_iff.1 hv
    obtain ⟨sz, hsz, hv⟩ := Option.bind_eq_some_iff.1 hv
    obtain ⟨sp, hsp, hv⟩ := Option.map_eq_some_iff.1 hv
    have hl4 := cutsL_len s sz sp d
    have hAe := mkG_ext hw 2 (cutsL s sz sp d).length (enc (cutsL s sz sp d))
    have hAo := mkG_own H 2 (cutsL s sz sp d).length (enc (cutsL s sz sp d)) (enc_len _)
    have hl := own_len hAo
    have hix := own_idx hAo .i64
    have hld := fun {H1 : Hp} (he : Pre _ H1) => own_load86 hAo he
    simp only [← alen83, ← aidx83] at hl hix
    unfold fromL at hv
    refine ⟨rfl, go ?_⟩
    unfold c22
    simp only [argSl]
    replace hv := Hide.mk hv
    replace hAe := Hide.mk hAe
    replace hAo := Hide.mk hAo
    repeat' (first | apply goSeq | apply goReg | apply goSeqN | apply goSeqR | apply goSkip | apply goRet | apply goNil | apply goBlock | apply goExit | apply goBlkN | apply goBlkR | apply goBlkE | apply goSeqE | apply goLoopR | apply goLoopE | (apply goOp; (· (simp [*]; try exact rfl)); (· exact rfl)) | (apply goOp0; (· (simp [*]; try exact rfl)); (· exact rfl)) | (apply goYes; (· (simp [*]; done)); (· (simp [*]; try exact rfl)); (· exact rfl)) | (apply goNo; (· (simp [*]; done))) | (apply goNoU; (· (simp; exact rfl))) | (apply goIfT; (· (simp [*]; done))) | (apply goIfF; (· (simp [*]; done))) | (apply goIf; (· (simp; exact rfl)); (· with_reducible exact rfl)) | (apply goSplit; (· (simp; exact rfl)); (· with_reducible exact rfl)) | (apply goIfQ; (· (simp; exact rfl)); (· exact rfl)) | (apply goSplitQ; (· (simp; exact rfl)); (· exact rfl)) | (apply goBlkX; (· rfl)) | intro _)
    generalize hL : cutsL s sz sp d = L at *
    generalize hA : (mkG H 2 L.length (enc L)).2 = HA at *
    generalize hu : (mkG H 2 L.length (enc L)).1 = u0 at *
    have hAe := hAe.out
    refine goLoop (fun m s1 H1 => Ext HA H1 ∧ ∃ (i : Nat) (u : AV), m = L.length - i ∧ i ≤ L.length ∧ get s1 11 = u ∧ get s1 22 = u0 ∧ get s1 23 = .int .i64 L.length ∧ get s1 24 = .int .i64 i ∧ Own HA H1 u ((L.take i).map fun p => p.1)) L.length ?_ ?_
    · exact ⟨Ext.refl hAe.wf, 0, .nilS, rfl, Nat.zero_le _, rfl, rfl, rfl, rfl, .inl ⟨rfl, rfl⟩⟩
    · rintro m s1 H1 ⟨he, i, u, hmm, hi, g1, g2, g3, g4, ho⟩
      simp only [cut_cons, cut_nil, g1, g2, g3, g4]
      clear g1 g2 g3 g4
      have hi0 : (0 : Int) ≤ i := Int.natCast_nonneg i
      have hw1 : w ((i : Int) + 1) = ((i + 1 : Nat) : Int) := w_id (by omega)
      have l1 := hld he.pre
      have hm := map_takeP (fun p => p.1) L i
      replace ho := Hide.mk ho
      replace hm := Hide.mk hm
      repeat' (first | apply goSeq | apply goReg | apply goSeqN | apply goSeqR | apply goSkip | apply goRet | apply goNil | apply goBlock | apply goExit | apply goBlkN | apply goBlkR | apply goBlkE | apply goSeqE | apply goLoopR | apply goLoopE | (apply goOp; (· (simp [*]; try exact rfl)); (· exact rfl)) | (apply goOp0; (· (simp [*]; try exact rfl)); (· exact rfl)) | (apply goYes; (· (simp [*]; done)); (· (simp [*]; try exact rfl)); (· exact rfl)) | (apply goNo; (· (simp [*]; done))) | (apply goNoU; (· (simp; exact rfl))) | (apply goIfT; (· (simp [*]; done))) | (apply goIfF; (· (simp [*]; done))) | (apply goIf; (· (simp; exact rfl)); (· with_reducible exact rfl)) | (apply goSplit; (· (simp; exact rfl)); (· with_reducible exact rfl)) | (apply goIfQ; (· (simp; exact rfl)); (· exact rfl)) | (apply goSplitQ; (· (simp; exact rfl)); (· exact rfl)) | (apply goBlkX; (· rfl)) | intro _)
      · rename_i hil
        obtain ⟨u', H2, e, ho', he'⟩ := app_own hAe.wf (he.new [.int .i64 (pth L i).1, .int .i64 (pth L i).2]) (ho.out.new _) (by simp; omega) (pth L i).1
        refine goOp (v := u') (H' := H2) rfl (by simp; exact e) ?_
        clear e
        replace ho' := Hide.mk ho'
        repeat' (first | apply goSeq | apply goReg | apply goSeqN | apply goSeqR | apply goSkip | apply goRet | apply goNil | apply goBlock | apply goExit | apply goBlkN | apply goBlkR | apply goBlkE | apply goSeqE | apply goLoopR | apply goLoopE | (apply goOp; (· (simp [*]; try exact rfl)); (· exact rfl)) | (apply goOp0; (· (simp [*]; try exact rfl)); (· exact rfl)) | (apply goYes; (· (simp [*]; done)); (· (simp [*]; try exact rfl)); (· exact rfl)) | (apply goNo; (· (simp [*]; done))) | (apply goNoU; (· (simp; exact rfl))) | (apply goIfT; (· (simp [*]; done))) | (apply goIfF; (· (simp [*]; done))) | (apply goIf; (· (simp; exact rfl)); (· with_reducible exact rfl)) | (apply goSplit; (· (simp; exact rfl)); (· with_reducible exact rfl)) | (apply goIfQ; (· (simp; exact rfl)); (· exact rfl)) | (apply goSplitQ; (· (simp; exact rfl)); (· exact rfl)) | (apply goBlkX; (· rfl)) | intro _)
        exact goLoopN (L.length - (i + 1)) (by omega) ⟨he', i + 1, u', rfl, by omega, rfl, rfl, rfl, rfl, by rw [hm.out hil]; exact ho'.out⟩
      · have : L.take i = L := List.take_of_length_le (by omega)
        refine goEndS hw (hAe.trans he) (ho.out.old hAe.c) (by simp) (by simp [rs22]) rfl ?_
        rw [← hv.out, this]
  · cases hv
@[simp] theorem F22_at (a b c : AV) (d : Int) (H : Hp) : F22 [a, b, c, .int .i64 d] H = (ints H a).bind fun s => (ints H b).bind fun sz => (ints H c).map fun sp => ((mkS H (fromL s sz sp d)).1, (mkS H (fromL s sz sp d)).2) := rfl
theorem fromL_len (s sz sp : List Int) (d : Int) : (fromL s sz sp d).length ≤ 4 := by simp only [fromL, List.length_map]; exact cutsL_len s sz sp d

noncomputable def F19 (args : List AV) (H : Hp) : Option (AV × Hp) := match args with
  | [a, b, c] => (ints H a).bind fun s => (ints H b).bind fun sz => (ints H c).map fun sp => mkS H (sizeL s sz sp 0)
  | _ => none
theorem snd19 : Sound Try.prog 19 (FSem.eff F19).run := by
  refine sound_of hT (EOK_cons snd21 (EOK_nil _)) mixed A19 Try.func19 hb19 (by kernel_rfl) (by kernel_rfl) (by kernel_rfl) (by kernel_rfl) sh19 3 (by kernel_rfl) rs19 hr19 ?_
  intro args H r H' hw h
  have hv : F19 args H = some (r, H') := h
  clear h
  unfold F19 at hv
  split at hv
  · rename_i a b c
    obtain ⟨s, hs, hv⟩ := Option.bind_eq_some_iff.1 hv
    obtain ⟨sz, hsz, hv⟩ := Option.bind_eq_some_iff.1 hv
    obtain ⟨sp, hsp, hv⟩ := Option.map_eq_some_iff.1 hv
    refine ⟨rfl, go ?_⟩
    unfold c19
    simp only [argSl]
    replace hv := Hide.mk hv
    repeat' (first | apply goSeq | apply goReg | apply goSeqN | apply goSeqR | apply goSkip | apply goRet | apply goNil | apply goBlock | apply goExit | apply goBlkN | apply goBlkR | apply goBlkE | apply goSeqE | apply goLoopR | apply goLoopE | (apply goOp; (· (simp [*]; try exact rfl)); (· exact rfl)) | (apply goOp0; (· (simp [*]; try exact rfl)); (· exact rfl)) | (apply goYes; (· (simp [*]; done)); (· (simp [*]; try exact rfl)); (· exact rfl)) | (apply goNo; (· (simp [*]; done))) | (apply goNoU; (· (simp; exact rfl))) | (apply goIfT; (· (simp [*]; done))) | (apply goIfF; (· (simp [*]; done))) | (apply goIf; (· (simp; exact rfl)); (· with_reducible exact rfl)) | (apply goSplit; (· (simp; exact rfl)); (· with_reducible exact rfl)) | (apply goIfQ; (· (simp; exact rfl)); (· exact rfl)) | (apply goSplitQ; (· (simp; exact rfl)); (· exact rfl)) | (apply goBlkX; (· rfl)) | intro _)
    exact goEndS hw (mkS_ext hw _) (mkS_own H _) (by simp) (by simp [rs19]) rfl hv.out
  · cases hv
@[simp] theorem F19_at (a b c : AV) (H : Hp) : F19 [a, b, c] H = (ints H a).bind fun s => (ints H b).bind fun sz => (ints H c).map fun sp => ((mkS H (sizeL s sz sp 0)).1, (mkS H (sizeL s sz sp 0)).2) := rfl

def sameGo : List Int → List Int → Bool
  | [], _ => true
  | a :: l, m => if a = nth m 0 then sameGo l (m.drop 1) else false
def sameL (l m : List Int) : Bool := if l.length = m.length then sameGo l m else false
theorem nth_drop (m : List Int) (i : Nat) : nth (m.drop i) 0 = nth m i := by
  simp [nth, List.getD_eq_getElem?_getD, List.getElem?_drop]
def F62 (args : List AV) (H : Hp) : Option AV := match args with
  | [a, b] => (ints H a).bind fun l => (ints H b).map fun m => .bool (sameL l m)
  | _ => none
theorem snd62 : Sound Try.prog 62 (FSem.pure F62).run := by
  refine sound_of hT (EOK_nil _) mixed A62 Try.func62 hb62 (by kernel_rfl) (by kernel_rfl) (by kernel_rfl) (by kernel_rfl) sh62 2 (by kernel_rfl) rs62 hr62 ?_
  intro args H r H' hw h
  obtain ⟨rfl, hv⟩ := pureAt h
  clear h
  unfold F62 at hv
  split at hv
  · rename_i v u
    obtain ⟨l, hl, hv⟩ := Option.bind_eq_some_iff.1 hv
    obtain ⟨q, hq, hv⟩ := Option.map_eq_some_iff.1 hv
    cases hv
    have hlen := alenS_ints hl
    have hlen2 := alenS_ints hq
    have hb := ints_len hl
    have hix := aidxS_ints hl .i64
    have hld := aload_nth T3 rfl hl
    have hix2 := aidxS_ints hq .i64
    have hld2 := aload_nth T3 rfl hq
    refine ⟨rfl, go ?_⟩
    unfold c62
    simp only [argSl]
    simp only [← aidx22, ← alen22] at hix hlen hix2 hlen2
    repeat' (first | apply goSeq | apply goReg | apply goSeqN | apply goSeqR | apply goSkip | apply goRet | apply goNil | apply goBlock | apply goExit | apply goBlkN | apply goBlkR | apply goBlkE | apply goSeqE | apply goLoopR | apply goLoopE | (apply goOp; (· (simp [*]; try exact rfl)); (· exact rfl)) | (apply goOp0; (· (simp [*]; try exact rfl)); (· exact rfl)) | (apply goYes; (· (simp [*]; done)); (· (simp [*]; try exact rfl)); (· exact rfl)) | (apply goNo; (· (simp [*]; done))) | (apply goNoU; (· (simp; exact rfl))) | (apply goIfT; (· (simp [*]; done))) | (apply goIfF; (· (simp [*]; done))) | (apply goIf; (· (simp; exact rfl)); (· with_reducible exact rfl)) | (apply goSplit; (· (simp; exact rfl)); (· with_reducible exact rfl)) | (apply goIfQ; (· (simp; exact rfl)); (· exact rfl)) | (apply goSplitQ; (· (simp; exact rfl)); (· exact rfl)) | (apply goBlkX; (· rfl)) | intro _)
    · rename_i hne
      refine goEnd hw (Pre.refl _) (by simp) (by simp [rs62]; exact rfl) rfl ?_
      have : ¬ l.length = q.length := by simp at hne; omega
      simp [sameL, this]
    · rename_i hne
      have hll : l.length = q.length := by simp at hne; omega
      have hll' : (q.length : Int) = l.length := by omega
      have hres : sameL l q = sameGo l q := by simp [sameL, hll]
      rw [hres]
      clear hne hv hres hlen2
      refine goLoop (fun m s1 H1 => H1 = H' ∧ ∃ (i : Nat), m = l.length - i ∧ i ≤ l.length ∧ get s1 0 = v ∧ get s1 1 = u ∧ get s1 5 = .int .i64 i ∧ sameGo (l.drop i) (q.drop i) = sameGo l q) l.length ?_ ?_
      · exact ⟨rfl, 0, rfl, Nat.zero_le _, rfl, rfl, rfl, by simp⟩
      · rintro m s1 H1 ⟨rfl, i, hm, hi, g3, g9, g10, hgo⟩
        simp only [cut_cons, cut_nil, g3, g9, g10]
        have hi0 : (0 : Int) ≤ i := Int.natCast_nonneg i
        have hd := fun h => drop_nth l i h
        have hnil : ¬ i < l.length → l.drop i = [] := fun h => List.drop_of_length_le (by omega)
        have hw1 : w ((i : Int) + 1) = ((i + 1 : Nat) : Int) := w_id (by omega)
        clear g3 g9 g10
        rw [hll'] at hix2 hld2
        replace hgo := Hide.mk hgo
        clear hll hll'
        repeat' (first | apply goSeq | apply goReg | apply goSeqN | apply goSeqR | apply goSkip | apply goRet | apply goNil | apply goBlock | apply goExit | apply goBlkN | apply goBlkR | apply goBlkE | apply goSeqE | apply goLoopR | apply goLoopE | (apply goOp; (· (simp [*]; try exact rfl)); (· exact rfl)) | (apply goOp0; (· (simp [*]; try exact rfl)); (· exact rfl)) | (apply goYes; (· (simp [*]; done)); (· (simp [*]; try exact rfl)); (· exact rfl)) | (apply goNo; (· (simp [*]; done))) | (apply goNoU; (· (simp; exact rfl))) | (apply goIfT; (· (simp [*]; done))) | (apply goIfF; (· (simp [*]; done))) | (apply goIf; (· (simp; exact rfl)); (· with_reducible exact rfl)) | (apply goSplit; (· (simp; exact rfl)); (· with_reducible exact rfl)) | (apply goIfQ; (· (simp; exact rfl)); (· exact rfl)) | (apply goSplitQ; (· (simp; exact rfl)); (· exact rfl)) | (apply goBlkX; (· rfl)) | intro _)
        all_goals replace hgo := hgo.out
        all_goals (try simp only [Bool.not_eq_true', decide_eq_false_iff_not, Bool.not_eq_false', decide_eq_true_eq] at *)
        all_goals first
          | (refine goEnd hw (Pre.refl _) (by simp) (by simp [rs62]; exact rfl) rfl ?_; rw [← hgo]; simp [sameGo, nth_drop, hd, hnil, *]; done)
          | (refine goLoopN (l.length - (i + 1)) (by omega) ⟨rfl, i + 1, rfl, by omega, rfl, rfl, rfl, ?_⟩; rw [← hgo]; simp [sameGo, nth_drop, hd, *])
  · cases hv
@[simp] theorem F62_at (a b : AV) (H : Hp) : F62 [a, b] H = (ints H a).bind fun l => (ints H b).map fun m => .bool (sameL l m) := rfl
end Go.Proofs.Ytokadkakmhfdeaa.Pq
