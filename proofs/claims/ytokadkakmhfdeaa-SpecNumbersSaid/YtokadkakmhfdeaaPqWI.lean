/- Walks: chapter 15's comparison is true of all. -/
import Derived.Test.YtokadkakmhfdeaaPqWH
set_option linter.unusedVariables false
set_option linter.unusedSimpArgs false
namespace Go.Proofs.Ytokadkakmhfdeaa.Pq
open Go.RowKit

theorem sameGo_refl : ∀ l : List Int, sameGo l l = true := by
  intro l
  induction l with
  | nil => rfl
  | cons a l ih => simp [sameGo, nth, ih]
theorem sameL_refl (l : List Int) : sameL l l = true := by simp [sameL, sameGo_refl]
/-- A number is appended to a list that is as long as it may be. -/
theorem app_full {H0 H : Hp} {v : AV} {l : List Int} (hw0 : Wf H0) (he : Ext H0 H) (h : OwnF H0 H v l) (hl : l.length < 1099511627776) (n : Int) :
    ∃ v' H', aapp T false 22 22 v (.sl H.bs.length H.c 0 1 1 true) (H.new [.int .i64 n]) = some (v', H') ∧ Own H0 H' v' (l ++ [n]) ∧ Ext H0 H' := by
  have hx : slCells (H.new [.int .i64 n]) (.sl H.bs.length H.c 0 1 1 true) = some (1, [.int .i64 n]) := by
    simp [slCells, new_at]
  have he1 : Ext H0 (H.new [.int .i64 n]) := he.new _
  obtain ⟨b, ver, rfl, hv, hk⟩ := h
  have hk' := at_new hk [.int .i64 n]
  refine ⟨.sl (H.new [.int .i64 n]).bs.length (H.new [.int .i64 n]).c 0 (l.length + 1) 1 false, (H.new [.int .i64 n]).new (l.map (.int .i64) ++ [.int .i64 n]), ?_, ?_, he1.new _⟩
  · simp only [aapp, D22, T3, Option.bind_some, aappend, hx, hk']
    simp [maxBytes, List.take_of_length_le]
    omega
  · exact .inr ⟨(H.new [.int .i64 n]).bs.length, (H.new [.int .i64 n]).c, by simp, he1.c, by simp, by simpa using new_at _ _⟩
theorem abin_beq (a b : Bool) : abin T .eql 4 (.bool a) (.bool b) = some (.bool (a == b)) := by
  have : T.d 4 = .bool := by simp [Tab.d, T4]
  simp [abin, this]
def parts (sz sp : List Int) : List Int := if specOK sz sp sp.length = true then sp.map (partOf sz) else []
theorem rParts_eq (sz sp : List Int) : rParts sz sp = parts sz sp := by
  simp only [rParts, parts, rSpecOK_eq, rOK_eq]
  by_cases h : specOK sz sp sp.length = true
  · simp [h, (specOK_lt h).2.1]
  · simp [h]
/-- What function 64 hands back, as a list. -/
theorem F64_ints {H : Hp} (hw : Wf H) {a b : AV} {sz sp : List Int} (ha : ints H a = some sz) (hb : ints H b = some sp) (hl : sp.length < 1099511627776) :
    ∃ u H', F64 [a, b] H = some (u, H') ∧ Ext H H' ∧ ints H' u = some (parts sz sp) := by
  have e : F64 [a, b] H = some (if specOK sz sp sp.length = true then mkF H (sp.map (partOf sz)) else (.nilS, H)) := by
    simp only [F64, ha, hb, Option.bind_some]
    rw [if_pos hl]
  by_cases h : specOK sz sp sp.length = true
  · rw [if_pos h] at e
    refine ⟨_, _, e, mkF_ext hw _, ?_⟩
    have := ints_of_ownF (mkF_own H (sp.map (partOf sz))) (by simp; omega)
    have hp : parts sz sp = sp.map (partOf sz) := by simp [parts, h]
    rw [hp]; exact this
  · rw [if_neg h] at e
    exact ⟨_, _, e, Ext.refl hw, by simp [parts, h, ints]⟩
theorem F59_ints {H : Hp} (hw : Wf H) {a b : AV} {sz sp : List Int} (ha : ints H a = some sz) (hb : ints H b = some sp) (hl : sp.length < 1099511627776) :
    ∃ u H', F59 [a, b] H = some (u, H') ∧ Ext H H' ∧ ints H' u = some (parts sz sp) := by
  have e : F59 [a, b] H = some (mkS H (rParts sz sp)) := by
    simp only [F59, ha, hb, Option.bind_some]
    rw [if_pos hl]
  have hp : (rParts sz sp).length ≤ sp.length := by unfold rParts; split <;> simp
  refine ⟨_, _, e, mkS_ext hw _, ?_⟩
  rw [← rParts_eq]
  exact ints_of_own (mkS_own H _) (by omega)
def wholes (n : Int) : List Int := if n < 0 ∨ 4 < n then [] else wholeL n
theorem F68_ints {H : Hp} (hw : Wf H) (n : Int) : ∃ u H', F68 [.int .i64 n] H = some (u, H') ∧ Ext H H' ∧ ints H' u = some (wholes n) := by
  by_cases h : n < 0 ∨ 4 < n
  · exact ⟨.nilS, H, by simp only [F68]; rw [if_pos h], Ext.refl hw, by simp only [wholes]; rw [if_pos h]; rfl⟩
  · refine ⟨(mkF H (wholeL n)).1, (mkF H (wholeL n)).2, by simp only [F68]; rw [if_neg h], mkF_ext hw _, ?_⟩
    simp only [wholes]; rw [if_neg h]
    exact ints_of_ownF (mkF_own H _) (by simp [wholeL]; omega)

def F25 (args : List AV) (H : Hp) : Option AV := match args with
  | [a, b, .int .i64 _, .int .i64 _] => (ints H a).bind fun _ => (ints H b).bind fun sp => if sp.length < 1099511627776 then some (.bool true) else none
  | _ => none
set_option maxHeartbeats 2000000 in
theorem snd25 : Sound Try.prog 25 (FSem.pure F25).run := by
  refine sound_of hT (EOK_cons snd63 (EOK_cons snd58 (EOK_cons snd64 (EOK_cons snd59 (EOK_cons snd62 (EOK_cons snd65 (EOK_cons snd23 (EOK_cons snd66 (EOK_cons snd67 (EOK_cons snd68 (EOK_cons snd69 (EOK_nil _)))))))))))) mixed A25 Try.func25 hb25 (by kernel_rfl) (by kernel_rfl) (by kernel_rfl) (by kernel_rfl) sh25 4 (by kernel_rfl) rs25 hr25 ?_
  intro args H r H' hw h
  obtain ⟨rfl, hv⟩ := pureAt h
  clear h
  unfold F25 at hv
  split at hv
  · rename_i a b n d
    obtain ⟨sz, hsz, hv⟩ := Option.bind_eq_some_iff.1 hv
    obtain ⟨sp, hsp, hv⟩ := Option.bind_eq_some_iff.1 hv
    split at hv
    rotate_left
    · cases hv
    rename_i hmax
    cases hv
    refine ⟨rfl, go ?_⟩
    unfold c25
    simp only [argSl]
    have hb0 := @xdo_bs22_0
    replace hsz := Hide.mk hsz
    replace hsp := Hide.mk hsp
    repeat' (first | apply goSeq | apply goReg | apply goSeqN | apply goSeqR | apply goSkip | apply goRet | apply goNil | apply goBlock | apply goExit | apply goBlkN | apply goBlkR | apply goBlkE | apply goSeqE | apply goLoopR | apply goLoopE | (apply goOp; (· (simp [*]; try exact rfl)); (· exact rfl)) | (apply goOp0; (· (simp [*]; try exact rfl)); (· exact rfl)) | (apply goYes; (· (simp [*]; done)); (· (simp [*]; try exact rfl)); (· exact rfl)) | (apply goNo; (· (simp [*]; done))) | (apply goNoU; (· (simp; exact rfl))) | (apply goIfT; (· (simp [*]; done))) | (apply goIfF; (· (simp [*]; done))) | (apply goIf; (· (simp; exact rfl)); (· with_reducible exact rfl)) | (apply goSplit; (· (simp; exact rfl)); (· with_reducible exact rfl)) | (apply goIfQ; (· (simp; exact rfl)); (· exact rfl)) | (apply goSplitQ; (· (simp; exact rfl)); (· exact rfl)) | (apply goBlkX; (· rfl)) | intro _)
    refine goLoop (fun m s1 G => Ext H' G ∧ ∃ (i : Nat) (u : AV), m = n.toNat - i ∧ (i = 0 ∨ n ≤ 4 ∧ i ≤ n.toNat) ∧ get s1 0 = a ∧ get s1 1 = b ∧ get s1 2 = .int .i64 n ∧ get s1 3 = .int .i64 d ∧ get s1 9 = u ∧ get s1 10 = .int .i64 i ∧ (i = 0 ∧ OwnF H' G u [] ∨ Own H' G u (List.replicate i (-1)))) n.toNat ?_ ?_
    · exact ⟨(Ext.refl hw).new _, 0, _, rfl, .inl rfl, rfl, rfl, rfl, rfl, rfl, rfl, .inl ⟨rfl, _, _, rfl, Nat.le_refl _, new_at _ _⟩⟩
    rintro m s1 G ⟨he, i, u, hmm, hi, g1, g2, g3, g4, g5, g6, ho⟩
    simp only [cut_cons, cut_nil, g1, g2, g3, g4, g5, g6]
    clear g1 g2 g3 g4 g5 g6 hb0
    have hi0 : (0 : Int) ≤ i := Int.natCast_nonneg i
    by_cases hin : (i : Int) < n ∧ n ≤ 4
    · obtain ⟨h1, h2⟩ := hin
      have hw1 : w ((i : Int) + 1) = ((i + 1 : Nat) : Int) := w_id (by omega)
      have happ : ∃ v' G', aapp T false 22 22 u (.sl G.bs.length G.c 0 1 1 true) (G.new [.int .i64 (-1)]) = some (v', G') ∧ Own H' G' v' (List.replicate i (-1) ++ [-1]) ∧ Ext H' G' := by
        rcases ho with ⟨rfl, ho⟩ | ho
        · exact app_full hw he ho (by simp) (-1)
        · exact app_own hw he ho (by simp; omega) (-1)
      obtain ⟨v', G', e, ho', he'⟩ := happ
      replace ho := Hide.mk ho
      replace ho' := Hide.mk ho'
      replace hi := Hide.mk hi
      repeat' (first | apply goSeq | apply goReg | apply goSeqN | apply goSeqR | apply goSkip | apply goRet | apply goNil | apply goBlock | apply goExit | apply goBlkN | apply goBlkR | apply goBlkE | apply goSeqE | apply goLoopR | apply goLoopE | (apply goOp; (· (simp [*]; try exact rfl)); (· exact rfl)) | (apply goOp0; (· (simp [*]; try exact rfl)); (· exact rfl)) | (apply goYes; (· (simp [*]; done)); (· (simp [*]; try exact rfl)); (· exact rfl)) | (apply goNo; (· (simp [*]; done))) | (apply goNoU; (· (simp; exact rfl))) | (apply goIfT; (· (simp [*]; done))) | (apply goIfF; (· (simp [*]; done))) | (apply goIf; (· (simp; exact rfl)); (· with_reducible exact rfl)) | (apply goSplit; (· (simp; exact rfl)); (· with_reducible exact rfl)) | (apply goIfQ; (· (simp; exact rfl)); (· exact rfl)) | (apply goSplitQ; (· (simp; exact rfl)); (· exact rfl)) | (apply goBlkX; (· rfl)) | intro _)
      have hi := hi.out
      refine goLoopN (n.toNat - (i + 1)) (by omega) ⟨he', i + 1, v', rfl, .inr ⟨h2, by omega⟩, rfl, rfl, rfl, rfl, rfl, rfl, .inr ?_⟩
      have := ho'.out
      rwa [← List.replicate_succ'] at this
    · have hu : ints G u = some (wholes n) := by
        by_cases hn : n < 0 ∨ 4 < n
        · have hi' : i = 0 := by omega
          have : wholes n = [] := by simp only [wholes]; rw [if_pos hn]
          rw [this]
          subst hi'
          rcases ho with ⟨_, ho⟩ | ho
          · exact ints_of_ownF ho (by simp)
          · exact ints_of_own ho (by simp)
        · have hi' : i = n.toNat := by omega
          have : wholes n = List.replicate i (-1) := by simp only [wholes]; rw [if_neg hn, hi']; rfl
          rw [this]
          rcases ho with ⟨h0, ho⟩ | ho
          · subst h0; exact ints_of_ownF ho (by simp)
          · exact ints_of_own ho (by simp; omega)
      have hcond : ∀ (p : Prop) [Decidable p], p = p := fun _ _ => rfl
      clear ho hcond
      have hsz1 := ints_ext he.pre hsz.out
      have hsp1 := ints_ext he.pre hsp.out
      obtain ⟨p1, G1, e64, x1, q1⟩ := F64_ints he.wf hsz1 hsp1 hmax
      have hsz2 := ints_ext x1.pre hsz1
      have hsp2 := ints_ext x1.pre hsp1
      obtain ⟨p2, G2, e59, x2, q2⟩ := F59_ints x1.wf hsz2 hsp2 hmax
      have hsz3 := ints_ext x2.pre hsz2
      have hsp3 := ints_ext x2.pre hsp2
      have q1' := ints_ext x2.pre q1
      obtain ⟨p3, G3, e68, x3, q3⟩ := F68_ints x2.wf n
      have hsz4 := ints_ext x3.pre hsz3
      have hsp4 := ints_ext x3.pre hsp3
      have hu4 := ints_ext ((x1.pre.trans x2.pre).trans x3.pre) hu
      have k1 := rSpecOK_eq sz sp n
      have k2 := copies_eq sz sp
      have k3 := sameL_refl (parts sz sp)
      have k4 := sameL_refl (wholes n)
      have k5 := abin_beq
      have hx : Ext H' G3 := ((he.trans x1).trans x2).trans x3
      clear hu hsz2 hsp2 q1 hmm hi
      replace he := Hide.mk he
      replace x1 := Hide.mk x1
      replace x2 := Hide.mk x2
      replace x3 := Hide.mk x3
      replace hx := Hide.mk hx
      rcases Int.lt_or_le (i : Int) n with hlt | hle
      · have hn4 : ¬ n ≤ 4 := by omega
        clear hin
        repeat' (first | apply goSeq | apply goReg | apply goSeqN | apply goSeqR | apply goSkip | apply goRet | apply goNil | apply goBlock | apply goExit | apply goBlkN | apply goBlkR | apply goBlkE | apply goSeqE | apply goLoopR | apply goLoopE | (apply goOp; (· (simp [*]; try exact rfl)); (· exact rfl)) | (apply goOp0; (· (simp [*]; try exact rfl)); (· exact rfl)) | (apply goYes; (· (simp [*]; done)); (· (simp [*]; try exact rfl)); (· exact rfl)) | (apply goNo; (· (simp [*]; done))) | (apply goNoU; (· (simp; exact rfl))) | (apply goIfT; (· (simp [*]; done))) | (apply goIfF; (· (simp [*]; done))) | (apply goIf; (· (simp; exact rfl)); (· with_reducible exact rfl)) | (apply goSplit; (· (simp; exact rfl)); (· with_reducible exact rfl)) | (apply goIfQ; (· (simp; exact rfl)); (· exact rfl)) | (apply goSplitQ; (· (simp; exact rfl)); (· exact rfl)) | (apply goBlkX; (· rfl)) | intro _)
        exact goEnd hw hx.out.pre (by simp) (by simp [rs25]; exact rfl) rfl rfl
      · have hn4 : ¬ (i : Int) < n := by omega
        clear hin
        repeat' (first | apply goSeq | apply goReg | apply goSeqN | apply goSeqR | apply goSkip | apply goRet | apply goNil | apply goBlock | apply goExit | apply goBlkN | apply goBlkR | apply goBlkE | apply goSeqE | apply goLoopR | apply goLoopE | (apply goOp; (· (simp [*]; try exact rfl)); (· exact rfl)) | (apply goOp0; (· (simp [*]; try exact rfl)); (· exact rfl)) | (apply goYes; (· (simp [*]; done)); (· (simp [*]; try exact rfl)); (· exact rfl)) | (apply goNo; (· (simp [*]; done))) | (apply goNoU; (· (simp; exact rfl))) | (apply goIfT; (· (simp [*]; done))) | (apply goIfF; (· (simp [*]; done))) | (apply goIf; (· (simp; exact rfl)); (· with_reducible exact rfl)) | (apply goSplit; (· (simp; exact rfl)); (· with_reducible exact rfl)) | (apply goIfQ; (· (simp; exact rfl)); (· exact rfl)) | (apply goSplitQ; (· (simp; exact rfl)); (· exact rfl)) | (apply goBlkX; (· rfl)) | intro _)
        exact goEnd hw hx.out.pre (by simp) (by simp [rs25]; exact rfl) rfl rfl
  · cases hv
end Go.Proofs.Ytokadkakmhfdeaa.Pq
