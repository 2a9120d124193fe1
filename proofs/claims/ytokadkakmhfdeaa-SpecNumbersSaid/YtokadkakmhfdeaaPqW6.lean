/- Walks: where parts lie. -/
import Derived.Test.YtokadkakmhfdeaaPqW5
set_option linter.unusedVariables false
set_option linter.unusedSimpArgs false
namespace Go.Proofs.Ytokadkakmhfdeaa.Pq
open Go.RowKit

/-! ### pairs of numbers -/
def pr (p : Int × Int) : List AV := [.int .i64 p.1, .int .i64 p.2]
def enc (l : List (Int × Int)) : List AV := l.flatMap pr
theorem enc_len (l : List (Int × Int)) : (enc l).length = l.length * 2 := by
  induction l with
  | nil => rfl
  | cons a l ih => simp [enc, pr] at ih ⊢; omega
theorem enc_flat (l : List (Int × Int)) : (enc l).all flat = true := by
  induction l with
  | nil => rfl
  | cons a l ih => simp [enc, pr, flat] at ih ⊢
theorem enc_app (l m : List (Int × Int)) : enc (l ++ m) = enc l ++ enc m := by simp [enc]
theorem enc_one (p : Int × Int) : enc [p] = pr p := by simp [enc]
def bld86 (x y : AV) : Option AV := (afill (fun j => some (j * 1, 1)) [.int .i64 0, .int .i64 0] [(0, x), (1, y)]).map .agg
@[simp] theorem bld86_int (a b : Int) : bld86 (.int .i64 a) (.int .i64 b) = some (.agg [.int .i64 a, .int .i64 b]) := rfl
section
variable {E : Env} {sh : Bool} {s : Sl} {H : Hp}
@[simp] theorem xdo_build86 (x y : Operand) : xdo E T sh (.build 86 #[(0, x), (1, y)]) s H = (bld86 (ev s x) (ev s y)).map fun v => (v, H) := by
  simp only [xdo, aop, T86, T3, bld86, Option.bind_some, Option.map_map]
  rfl
@[simp] theorem xdo_alloc86 : xdo E T sh (.alloc 86) s H = some (.ptr H.bs.length H.c 0, H.new [.int .i64 0, .int .i64 0]) := by
  simp [xdo, aop, T86]
theorem set_last (l : List Blk) (x y : Blk) : (l ++ [x]).set l.length y = l ++ [y] := by
  induction l with
  | nil => rfl
  | cons a l ih => simp
@[simp] theorem st86 (a b x y : Int) : astore T 86 (.ptr H.bs.length H.c 0) (.agg [.int .i64 x, .int .i64 y]) (H.new [.int .i64 a, .int .i64 b]) = some (H.new [.int .i64 x, .int .i64 y]) := by
  simp only [astore, T86, new_at]
  rw [if_pos (by simp [AV.cells, AV.one])]
  simp [Hp.put, Hp.new, setAll, AV.cells, set_last]
@[simp] theorem st3a (a b x : Int) : astore T 3 (.ptr H.bs.length H.c 0) (.int .i64 x) (H.new [.int .i64 a, .int .i64 b]) = some (H.new [.int .i64 x, .int .i64 b]) := by
  simp only [astore, T3, new_at]
  rw [if_pos (by simp [AV.cells, AV.one])]
  simp [Hp.put, Hp.new, setAll, AV.cells, set_last]
@[simp] theorem st3b (a b x : Int) : astore T 3 (.ptr H.bs.length H.c 1) (.int .i64 x) (H.new [.int .i64 a, .int .i64 b]) = some (H.new [.int .i64 a, .int .i64 x]) := by
  simp only [astore, T3, new_at]
  rw [if_pos (by simp [AV.cells, AV.one])]
  simp [Hp.put, Hp.new, setAll, AV.cells, set_last]
@[simp] theorem ld86 (a b : Int) : aload T 86 (.ptr H.bs.length H.c 0) (H.new [.int .i64 a, .int .i64 b]) = some (.agg [.int .i64 a, .int .i64 b]) := by
  simp [aload, T86, new_at]
@[simp] theorem ld3a (a b : Int) : aload T 3 (.ptr H.bs.length H.c 0) (H.new [.int .i64 a, .int .i64 b]) = some (.int .i64 a) := by
  simp [aload, T3, new_at]
@[simp] theorem ld3b (a b : Int) : aload T 3 (.ptr H.bs.length H.c 1) (H.new [.int .i64 a, .int .i64 b]) = some (.int .i64 b) := by
  simp [aload, T3, new_at]
@[simp] theorem ix86a (b v o : Nat) : aidx T 86 (.ptr b v o) (.int .i64 0) = some (.ptr b v o) := by simp [aidx, D86, T3, aidxA]
@[simp] theorem ix86b (b v o : Nat) : aidx T 86 (.ptr b v o) (.int .i64 1) = some (.ptr b v (o + 1)) := by simp [aidx, D86, T3, aidxA]
def abs2 (v : AV) (H : Hp) : Option (AV × Hp) := (afill (fun j => some (j * 2, 2)) [.int .i64 0, .int .i64 0] [(0, v)]).map fun cs => (.sl H.bs.length H.c 0 1 2 true, H.new cs)
@[simp] theorem abs2_pr (a b : Int) : abs2 (.agg [.int .i64 a, .int .i64 b]) H = some (.sl H.bs.length H.c 0 1 2 true, H.new [.int .i64 a, .int .i64 b]) := rfl
@[simp] theorem xdo_bs2 (x : Operand) : xdo E T sh (.buildSlice 83 1 #[(0, x)]) s H = abs2 (ev s x) H := by
  simp [xdo, aop, D83, T86, rep, abs2]
end
theorem alen83 (v : AV) : alen T 83 v = alenS v := by simp [alen, D83]
theorem aidx83 (v i : AV) : aidx T 83 v i = aidxS 2 v i := by simp [aidx, D83, T86]
@[simp] theorem F123_at (a : AV) (d : Int) (H : Hp) : F123 [a, .int .i64 d] H = (ints H a).map fun sz => if d < 0 ∨ devs sz ≤ d then (.nilS, H) else mkF H (meshAt sz d) := rfl
@[simp] theorem F60_at (n k i : Int) (H : Hp) : F60 [.int .i64 n, .int .i64 k, .int .i64 i] H = some (.tup [.int .i64 (cut n k i).1, .int .i64 (cut n k i).2]) := rfl

theorem atW_len (sz : List Int) : ∀ (n : Nat) (d : Int) (out : List Int), (atW sz n d out).length = out.length := by
  intro n
  induction n with
  | zero => intro d out; rfl
  | succ n ih => intro d out; simp [atW, ih]
theorem meshAt_len (sz : List Int) (d : Int) : (meshAt sz d).length = sz.length := by simp [meshAt, atW_len]
theorem specGo_lt {n : Int} : ∀ (l pre : List Int), specGo n pre l = true → ∀ (i : Nat), i < l.length → -1 ≤ nth l i ∧ nth l i < n := by
  intro l
  induction l with
  | nil => intro pre _ i hi; simp at hi
  | cons a l ih =>
    intro pre h i hi
    simp only [specGo] at h
    split at h
    · cases h
    · rename_i h1
      split at h
      · cases h
      · cases i with
        | zero => simp [nth]; omega
        | succ i =>
          have := ih _ h i (by simpa using hi)
          simpa [nth] using this
theorem specOK_lt {sz sp : List Int} {r : Int} (h : specOK sz sp r = true) : (sp.length : Int) = r ∧ meshOK sz = true ∧ ∀ i : Nat, i < sp.length → -1 ≤ nth sp i ∧ nth sp i < sz.length := by
  unfold specOK at h
  split at h
  · cases h
  · rename_i h1
    refine ⟨by simpa using fun e => h1 (.inr e), by simpa using fun e => h1 (.inl e), specGo_lt sp [] h⟩

/-- Where a device's part goes from and to, one way. -/
def cutAt (s sz at' : List Int) (i k : Int) : Int × Int := if 0 ≤ k then cut (nth s i) (nth sz k) (nth at' k) else (0, nth s i)
def cutsGo (s sz at' sp : List Int) : Nat → List (Int × Int)
  | 0 => []
  | i + 1 => cutsGo s sz at' sp i ++ [cutAt s sz at' i (nth sp i)]
def mayCut (s sz sp : List Int) (d : Int) : Prop := shapeOK s = true ∧ specOK sz sp s.length = true ∧ 0 ≤ d ∧ d < devs sz
theorem cutsGo_len (s sz at' sp : List Int) (n : Nat) : (cutsGo s sz at' sp n).length = n := by
  induction n with
  | zero => rfl
  | succ n ih => simp [cutsGo, ih]
open Classical in
noncomputable def cutsF (H : Hp) (s sz sp : List Int) (d : Int) : AV × Hp :=
  if mayCut s sz sp d then (.tup [(mkG H 2 sp.length (enc (cutsGo s sz (meshAt sz d) sp sp.length))).1, .bool true], (mkG H 2 sp.length (enc (cutsGo s sz (meshAt sz d) sp sp.length))).2) else (.tup [.nilS, .bool false], H)
noncomputable def F57 (args : List AV) (H : Hp) : Option (AV × Hp) := match args with
  | [a, b, c, .int .i64 d] => (ints H a).bind fun s => (ints H b).bind fun sz => (ints H c).map fun sp => cutsF H s sz sp d
  | _ => none

theorem OwnG.new {es : Nat} {H0 H : Hp} {v : AV} {n : Nat} {cs : List AV} (h : OwnG es H0 H v n cs) (xs : List AV) : OwnG es H0 (H.new xs) v n cs := by
  rcases h with h | ⟨b, ver, h1, h2, h3, h4, hk⟩
  · exact .inl h
  · exact .inr ⟨b, ver, h1, h2, h3, h4, at_new hk xs⟩
theorem OwnG.old {es : Nat} {A B H : Hp} {v : AV} {n : Nat} {cs : List AV} (h : OwnG es B H v n cs) (hc : A.c ≤ B.c) : OwnG es A H v n cs := by
  rcases h with h | ⟨b, ver, h1, h2, h3, h4, hk⟩
  · exact .inl h
  · exact .inr ⟨b, ver, h1, Nat.le_trans hc h2, h3, h4, hk⟩

set_option maxHeartbeats 1000000 in
theorem snd57 : Sound Try.prog 57 (FSem.eff F57).run := by
  refine sound_of hT (EOK_cons snd90 (EOK_cons snd63 (EOK_cons snd88 (EOK_cons snd123 (EOK_cons snd60 (EOK_nil _)))))) mixed A57 Try.func57 hb57 (by kernel_rfl) (by kernel_rfl) (by kernel_rfl) (by kernel_rfl) sh57 4 (by kernel_rfl) rs57 hr57 ?_
  intro args H r H' hw h
  have hv : F57 args H = some (r, H') := h
  clear h
  unfold F57 at hv
  split at hv
  · rename_i a b c d
    obtain ⟨s, hs, hv⟩ := Option.bind_eq_some_iff.1 hv
    obtain ⟨sz, hsz, hv⟩ := Option.bind_eq_some_iff.1 hv
    obtain ⟨l, hl, hv⟩ := Option.map_eq_some_iff.1 hv
    have hlen := alenS_ints hl
    have hlens := alenS_ints hs
    refine ⟨rfl, go ?_⟩
    unfold c57
    simp only [argSl]
    simp only [← alen22] at hlen hlens
    replace hv := Hide.mk hv
    repeat' (first | apply goSeq | apply goReg | apply goSeqN | apply goSeqR | apply goSkip | apply goRet | apply goNil | apply goBlock | apply goExit | apply goBlkN | apply goBlkR | apply goBlkE | apply goSeqE | apply goLoopR | apply goLoopE | (apply goOp; (· (simp [*]; try exact rfl)); (· exact rfl)) | (apply goOp0; (· (simp [*]; try exact rfl)); (· exact rfl)) | (apply goYes; (· (simp [*]; done)); (· (simp [*]; try exact rfl)); (· exact rfl)) | (apply goNo; (· (simp [*]; done))) | (apply goNoU; (· (simp; exact rfl))) | (apply goIfT; (· (simp [*]; done))) | (apply goIfF; (· (simp [*]; done))) | (apply goIf; (· (simp; exact rfl)); (· with_reducible exact rfl)) | (apply goSplit; (· (simp; exact rfl)); (· with_reducible exact rfl)) | (apply goIfQ; (· (simp; exact rfl)); (· exact rfl)) | (apply goSplitQ; (· (simp; exact rfl)); (· exact rfl)) | (apply goBlkX; (· rfl)) | intro _)
    all_goals replace hv := hv.out
    all_goals (try simp only [Bool.not_eq_true', decide_eq_false_iff_not, Bool.not_eq_false', decide_eq_true_eq, Bool.not_eq_eq_eq_not, Bool.not_false, Bool.not_true] at *)
    all_goals first
      | (have hno : ¬ mayCut s sz l d := by
           unfold mayCut
           first | (simp [*]; done) | (intro hc; omega)
         rw [cutsF, if_neg hno] at hv
         cases hv
         exact goEnd hw (Pre.refl _) (by simp) (by simp [rs57]; exact rfl) rfl rfl)
      | skip
    rename_i hd1 hd2 hsh hsp
    have hmay : mayCut s sz l d := ⟨hsh, hsp, by omega, by omega⟩
    rw [cutsF, if_pos hmay] at hv
    obtain ⟨hsl, hmesh, hlt⟩ := specOK_lt hsp
    have hL := meshAt_len sz d
    obtain ⟨hm3, _⟩ := meshOK_pos hmesh
    have hs4 : s.length ≤ 4 := by
      unfold shapeOK at hsh
      split at hsh
      · cases hsh
      · omega
    have hAe : Ext H (mkF H (meshAt sz d)).2 := mkF_ext hw _
    have hAo := mkF_own H (meshAt sz d)
    clear hd1 hd2 hsh hsp hmay hmesh
    simp only [mkF] at hAe hAo
    generalize hLL : meshAt sz d = L at *
    generalize hHA : H.new (L.map (AV.int .i64)) = HA at *
    generalize hat : AV.sl H.bs.length H.c 0 L.length 1 true = at' at *
    have hsA := ints_ext hAe.pre hs
    have hszA := ints_ext hAe.pre hsz
    have hlA := ints_ext hAe.pre hl
    have hLA := ints_of_ownF hAo (by omega)
    have ia := aidxS_ints hs .i64
    have ib := aidxS_ints hsz .i64
    have ic := aidxS_ints hl .i64
    have iL := aidxS_ints hLA .i64
    simp only [← aidx22] at ia ib ic iL
    refine goLoop (fun m s1 H1 => Ext HA H1 ∧ ∃ (i : Nat) (u : AV), m = l.length - i ∧ i ≤ l.length ∧ get s1 0 = a ∧ get s1 1 = b ∧ get s1 10 = at' ∧ get s1 11 = u ∧ get s1 39 = c ∧ get s1 40 = .int .i64 l.length ∧ get s1 41 = .int .i64 i ∧ OwnG 2 HA H1 u i (enc (cutsGo s sz L l i))) l.length ?_ ?_
    · exact ⟨Ext.refl hAe.wf, 0, .nilS, rfl, Nat.zero_le _, rfl, rfl, rfl, rfl, rfl, rfl, rfl, .inl ⟨rfl, rfl, rfl⟩⟩
    · rintro m s1 H1 ⟨he, i, u, hmm, hi, g1, g2, g3, g4, g5, g6, g7, ho⟩
      simp only [cut_cons, cut_nil, g1, g2, g3, g4, g5, g6, g7]
      clear g1 g2 g3 g4 g5 g6 g7
      have hi0 : (0 : Int) ≤ i := Int.natCast_nonneg i
      have hw1 : w ((i : Int) + 1) = ((i + 1 : Nat) : Int) := w_id (by omega)
      have la := aload_nth T3 rfl (ints_ext he.pre hsA)
      have lc := aload_nth T3 rfl (ints_ext he.pre hlA)
      have la2 := fun xs => aload_nth T3 rfl (ints_ext (he.new xs).pre hsA)
      have lb2 := fun xs => aload_nth T3 rfl (ints_ext (he.new xs).pre hszA)
      have lL2 := fun xs => aload_nth T3 rfl (ints_ext (he.new xs).pre hLA)
      have hk2 : i < s.length → nth l i < sz.length := fun h => (hlt i (by omega)).2
      replace ho := Hide.mk ho
      replace hAo := Hide.mk hAo
      replace hv := Hide.mk hv
      clear hlt hsA hszA hlA hLA
      repeat' (first | apply goSeq | apply goReg | apply goSeqN | apply goSeqR | apply goSkip | apply goRet | apply goNil | apply goBlock | apply goExit | apply goBlkN | apply goBlkR | apply goBlkE | apply goSeqE | apply goLoopR | apply goLoopE | (apply goOp; (· (simp [*]; try exact rfl)); (· exact rfl)) | (apply goOp0; (· (simp [*]; try exact rfl)); (· exact rfl)) | (apply goYes; (· (simp [*]; done)); (· (simp [*]; try exact rfl)); (· exact rfl)) | (apply goNo; (· (simp [*]; done))) | (apply goNoU; (· (simp; exact rfl))) | (apply goIfT; (· (simp [*]; done))) | (apply goIfF; (· (simp [*]; done))) | (apply goIf; (· (simp; exact rfl)); (· with_reducible exact rfl)) | (apply goSplit; (· (simp; exact rfl)); (· with_reducible exact rfl)) | (apply goIfQ; (· (simp; exact rfl)); (· exact rfl)) | (apply goSplitQ; (· (simp; exact rfl)); (· exact rfl)) | (apply goBlkX; (· rfl)) | intro _)
      · rename_i hil hk
        obtain ⟨u', H2, e, ho', he'⟩ := app_gen (xs := [.int .i64 (cut (nth s i) (nth sz (nth l i)) (nth L (nth l i))).1, .int .i64 (cut (nth s i) (nth sz (nth l i)) (nth L (nth l i))).2]) hAe.wf D83 T86 (by simp) (he.new [.int .i64 (cut (nth s i) (nth sz (nth l i)) (nth L (nth l i))).1, .int .i64 (cut (nth s i) (nth sz (nth l i)) (nth L (nth l i))).2]) (ho.out.new _) (by simp [maxBytes]; omega) rfl
        refine goOp (v := u') (H' := H2) rfl (by simp; exact e) ?_
        clear e
        replace ho' := Hide.mk ho'
        repeat' (first | apply goSeq | apply goReg | apply goSeqN | apply goSeqR | apply goSkip | apply goRet | apply goNil | apply goBlock | apply goExit | apply goBlkN | apply goBlkR | apply goBlkE | apply goSeqE | apply goLoopR | apply goLoopE | (apply goOp; (· (simp [*]; try exact rfl)); (· exact rfl)) | (apply goOp0; (· (simp [*]; try exact rfl)); (· exact rfl)) | (apply goYes; (· (simp [*]; done)); (· (simp [*]; try exact rfl)); (· exact rfl)) | (apply goNo; (· (simp [*]; done))) | (apply goNoU; (· (simp; exact rfl))) | (apply goIfT; (· (simp [*]; done))) | (apply goIfF; (· (simp [*]; done))) | (apply goIf; (· (simp; exact rfl)); (· with_reducible exact rfl)) | (apply goSplit; (· (simp; exact rfl)); (· with_reducible exact rfl)) | (apply goIfQ; (· (simp; exact rfl)); (· exact rfl)) | (apply goSplitQ; (· (simp; exact rfl)); (· exact rfl)) | (apply goBlkX; (· rfl)) | intro _)
        refine goLoopN (l.length - (i + 1)) (by omega) ⟨he', i + 1, u', rfl, by omega, rfl, rfl, rfl, rfl, rfl, by simp [hsl], rfl, ?_⟩
        have := ho'.out
        simp only [cutsGo, enc_app, enc_one, pr, cutAt, if_pos hk]
        exact this
      · rename_i hil hk
        obtain ⟨u', H2, e, ho', he'⟩ := app_gen (xs := [.int .i64 0, .int .i64 (nth s i)]) hAe.wf D83 T86 (by simp) (he.new [.int .i64 0, .int .i64 (nth s i)]) (ho.out.new _) (by simp [maxBytes]; omega) rfl
        refine goOp (v := u') (H' := H2) rfl (by simp; exact e) ?_
        clear e
        replace ho' := Hide.mk ho'
        repeat' (first | apply goSeq | apply goReg | apply goSeqN | apply goSeqR | apply goSkip | apply goRet | apply goNil | apply goBlock | apply goExit | apply goBlkN | apply goBlkR | apply goBlkE | apply goSeqE | apply goLoopR | apply goLoopE | (apply goOp; (· (simp [*]; try exact rfl)); (· exact rfl)) | (apply goOp0; (· (simp [*]; try exact rfl)); (· exact rfl)) | (apply goYes; (· (simp [*]; done)); (· (simp [*]; try exact rfl)); (· exact rfl)) | (apply goNo; (· (simp [*]; done))) | (apply goNoU; (· (simp; exact rfl))) | (apply goIfT; (· (simp [*]; done))) | (apply goIfF; (· (simp [*]; done))) | (apply goIf; (· (simp; exact rfl)); (· with_reducible exact rfl)) | (apply goSplit; (· (simp; exact rfl)); (· with_reducible exact rfl)) | (apply goIfQ; (· (simp; exact rfl)); (· exact rfl)) | (apply goSplitQ; (· (simp; exact rfl)); (· exact rfl)) | (apply goBlkX; (· rfl)) | intro _)
        refine goLoopN (l.length - (i + 1)) (by omega) ⟨he', i + 1, u', rfl, by omega, rfl, rfl, rfl, rfl, rfl, by simp [hsl], rfl, ?_⟩
        have := ho'.out
        simp only [cutsGo, enc_app, enc_one, pr, cutAt, if_neg hk]
        exact this
      · rename_i hil
        have hii : i = l.length := by omega
        subst hii
        have hv := hv.out
        obtain ⟨hv1, hv2⟩ := Prod.mk.inj hv
        subst hv1
        exact goEndT hw (hAe.trans he) (ho.out.old hAe.c) (enc_flat _) (by simp) (by simp [rs57]) rfl (by rw [← hv2])
  · cases hv
end Go.Proofs.Ytokadkakmhfdeaa.Pq
