/- Walks: spec.Whole, by slices.Repeat. -/
import Derived.Test.YtokadkakmhfdeaaPqWG
set_option linter.unusedVariables false
set_option linter.unusedSimpArgs false
namespace Go.Proofs.Ytokadkakmhfdeaa.Pq
open Go.RowKit

def aconv (T : Tab) (src t : Nat) (x : AV) : Option AV := match T src, Tab.d T t, x with
  | some _, .int k, .int _ n => some (.int k (k.wrap n))
  | _, _, _ => none
def acp (T : Tab) (t : Nat) (x y : AV) (H : Hp) : Option (AV × Hp) := match Tab.d T t with
  | .slice e => (T e).bind fun ie => acopy ie.size x y H
  | _ => none
section
variable {E : Env} {sh : Bool} {s : Sl} {H : Hp}
@[simp] theorem xdo_conv (src t : Nat) (x : Operand) : xdo E T sh (.convert src t x) s H = (aconv T src t (ev s x)).map fun v => (v, H) := by
  simp only [xdo, aop, aconv]
  cases T src <;> cases Tab.d T t <;> cases ev s x <;> rfl
@[simp] theorem xdo_copy (x y : Operand) (t u : Nat) : xdo E T sh (.call ⟨.builtin .copy, #[x, y], #[t, u]⟩) s H = acp T t (ev s x) (ev s y) H := by
  simp only [xdo, aop, acp]
  cases Tab.d T t <;> rfl
end
theorem acp22 (x y : AV) (H : Hp) : acp T 22 x y H = acopy 1 x y H := by simp [acp, D22, T3]
theorem setAll_app : ∀ (vs a b : List AV), vs.length ≤ b.length → setAll (a ++ b) a.length vs = a ++ vs ++ b.drop vs.length := by
  intro vs
  induction vs with
  | nil => intro a b _; simp [setAll]
  | cons v vs ih =>
    intro a b h
    cases b with
    | nil => simp at h
    | cons x b =>
      have e : (a ++ x :: b).set a.length v = (a ++ [v]) ++ b := by
        rw [List.set_append_right _ _ (Nat.le_refl _)]
        simp
      have := ih (a ++ [v]) b (by simpa using h)
      simp only [List.length_append, List.length_singleton] at this
      simp only [setAll, e, this]
      simp
/-- A part of an own list is copied behind it. -/
theorem copy_own {H0 H : Hp} {v : AV} {A B : List Int} (hw0 : Wf H0) (he : Ext H0 H) (h : OwnF H0 H v (A ++ B)) (c : Nat) (hc : c = min A.length B.length) :
    ∃ d x H', aslice 1 v (some (.int .i64 A.length)) none none = some d ∧ aslice 1 v none (some (.int .i64 A.length)) none = some x ∧ acopy 1 d x H = some (.int .i64 c, H') ∧ OwnF H0 H' v (A ++ A.take c ++ B.drop c) ∧ Ext H0 H' := by
  obtain ⟨b, ver, rfl, hv, hk⟩ := h
  obtain ⟨g1, g2⟩ := Hp.at_some hk
  have hb := (List.getElem?_eq_some_iff.1 g1).1
  have hx : slCells H (.sl b ver 0 A.length 1 (true && decide ((A.length : Int) = ((A ++ B).length : Nat)))) = some (A.length, A.map (.int .i64)) := by
    simp only [slCells, hk]
    rw [if_pos (by simp)]
    simp
  have hset : setAll ((A ++ B).map (AV.int .i64)) A.length ((A.map (AV.int .i64)).take c) = (A ++ A.take c ++ B.drop c).map (.int .i64) := by
    have := setAll_app ((A.take c).map (AV.int .i64)) (A.map (.int .i64)) (B.map (.int .i64)) (by simp; omega)
    simp only [List.length_map] at this
    rw [List.map_append, ← List.map_take, this]
    simp only [List.map_append, List.length_take, List.map_drop]
    rw [show min c A.length = c by omega]
  refine ⟨.sl b ver A.length B.length 1 true, .sl b ver 0 A.length 1 (true && decide ((A.length : Int) = ((A ++ B).length : Nat))), H.put b ⟨ver, (A ++ A.take c ++ B.drop c).map (.int .i64), true, true⟩, ?_, ?_, ?_, ⟨b, ver, ?_, hv, ?_⟩, ?_, ?_, he.c⟩
  · simp only [aslice, bnd]
    rw [if_pos (by simp; omega)]
    simp
    omega
  · simp only [aslice, bnd]
    rw [if_pos (by simp; omega)]
    simp only [Int.toNat_natCast, Int.toNat_zero, Nat.zero_mul, Nat.zero_add, Nat.sub_zero]
  · simp only [acopy, hx, hk]
    rw [if_pos (by simp)]
    simp only [Nat.mul_one, show min A.length B.length = c from hc.symm, hset]
  · simp only [List.length_append, List.length_take, List.length_drop]; congr 1; omega
  · simp [Hp.at, Hp.put, hb]
  · intro i k hi
    have h1 := he.pre i k hi
    show (H.bs.set b _)[i]? = some k
    by_cases hib : b = i
    · subst hib
      rw [g1] at h1
      cases h1
      exact absurd (hw0 b _ hi) (Nat.not_lt.2 hv)
    · rw [List.getElem?_set_ne hib]; exact h1
  · intro i k hi
    simp only [Hp.put] at hi ⊢
    by_cases hib : b = i
    · subst hib
      simp [hb] at hi
      subst hi
      exact (he.wf b _ g1 : ver < H.c)
    · rw [List.getElem?_set_ne hib] at hi
      exact he.wf i k hi
/-- A list is copied into the beginning of an own one. -/
theorem copy_into {H0 H : Hp} {v y : AV} {A L : List Int} (hw0 : Wf H0) (he : Ext H0 H) (h : OwnF H0 H v L) (hy : ints H y = some A) (c : Nat) (hc : c = min A.length L.length) :
    ∃ H', acopy 1 v y H = some (.int .i64 c, H') ∧ OwnF H0 H' v (A.take c ++ L.drop c) ∧ Ext H0 H' := by
  obtain ⟨b, ver, rfl, hv, hk⟩ := h
  obtain ⟨g1, g2⟩ := Hp.at_some hk
  have hb := (List.getElem?_eq_some_iff.1 g1).1
  have hx := ints_cells hy
  have hset : setAll (L.map (AV.int .i64)) 0 ((A.map (AV.int .i64)).take c) = (A.take c ++ L.drop c).map (.int .i64) := by
    have := setAll_app ((A.take c).map (AV.int .i64)) [] (L.map (.int .i64)) (by simp; omega)
    simp only [List.nil_append, List.length_nil, List.length_map, List.length_take] at this
    rw [← List.map_take, this, show min c A.length = c by omega]
    simp
  refine ⟨H.put b ⟨ver, (A.take c ++ L.drop c).map (.int .i64), true, true⟩, ?_, ⟨b, ver, ?_, hv, ?_⟩, ?_, ?_, he.c⟩
  · simp only [acopy, hx, hk]
    rw [if_pos (by simp)]
    simp only [Nat.mul_one, show min A.length L.length = c from hc.symm, hset]
  · simp only [List.length_append, List.length_take, List.length_drop]; congr 1; omega
  · simp [Hp.at, Hp.put, hb]
  · intro i k hi
    have h1 := he.pre i k hi
    show (H.bs.set b _)[i]? = some k
    by_cases hib : b = i
    · subst hib
      rw [g1] at h1
      cases h1
      exact absurd (hw0 b _ hi) (Nat.not_lt.2 hv)
    · rw [List.getElem?_set_ne hib]; exact h1
  · intro i k hi
    simp only [Hp.put] at hi ⊢
    by_cases hib : b = i
    · subst hib
      simp [hb] at hi
      subst hi
      exact (he.wf b _ g1 : ver < H.c)
    · rw [List.getElem?_set_ne hib] at hi
      exact he.wf i k hi

/-! ### the product, where one factor is one -/
theorem tup2 {a b c d : Int} (h1 : a = c) (h2 : b = d) : AV.tup [.int .u64 a, .int .u64 b] = .tup [.int .u64 c, .int .u64 d] := by rw [h1, h2]
def F173 (args : List AV) (_ : Hp) : Option AV := match args with
  | [.int .u64 a, .int .u64 n] => if a = 1 ∧ 0 ≤ n ∧ n ≤ 4 then some (.tup [.int .u64 0, .int .u64 n]) else none
  | _ => none
set_option maxHeartbeats 1000000 in
theorem snd173 : Sound Try.prog 173 (FSem.pure F173).run := by
  refine sound_of hT (EOK_nil _) mixed A173 Try.func173 hb173 (by kernel_rfl) (by kernel_rfl) (by kernel_rfl) (by kernel_rfl) sh173 2 (by kernel_rfl) rs173 hr173 ?_
  intro args H r H' hw h
  obtain ⟨rfl, hv⟩ := pureAt h
  clear h
  unfold F173 at hv
  split at hv
  · rename_i a n
    split at hv
    rotate_left
    · cases hv
    rename_i hc
    obtain ⟨rfl, h0, h4⟩ := hc
    cases hv
    refine ⟨rfl, go ?_⟩
    unfold c173
    simp only [argSl]
    have hn : n = 0 ∨ n = 1 ∨ n = 2 ∨ n = 3 ∨ n = 4 := by omega
    rcases hn with rfl | rfl | rfl | rfl | rfl
    all_goals repeat' (first | apply goSeq | apply goReg | apply goSeqN | apply goSeqR | apply goSkip | apply goRet | apply goNil | apply goBlock | apply goExit | apply goBlkN | apply goBlkR | apply goBlkE | apply goSeqE | apply goLoopR | apply goLoopE | (apply goOp; (· (simp [*]; try exact rfl)); (· exact rfl)) | (apply goOp0; (· (simp [*]; try exact rfl)); (· exact rfl)) | (apply goYes; (· (simp [*]; done)); (· (simp [*]; try exact rfl)); (· exact rfl)) | (apply goNo; (· (simp [*]; done))) | (apply goNoU; (· (simp; exact rfl))) | (apply goIfT; (· (simp [*]; done))) | (apply goIfF; (· (simp [*]; done))) | (apply goIf; (· (simp; exact rfl)); (· with_reducible exact rfl)) | (apply goSplit; (· (simp; exact rfl)); (· with_reducible exact rfl)) | (apply goIfQ; (· (simp; exact rfl)); (· exact rfl)) | (apply goSplitQ; (· (simp; exact rfl)); (· exact rfl)) | (apply goBlkX; (· rfl)) | intro _)
    all_goals exact goEnd hw (Pre.refl _) (by simp) (by simp [rs173]; exact rfl) rfl (by simp only [xret_two, rel_tup, rels_cons, rels_nil, rel_int]; exact tup2 (by decide) (by decide))
  · cases hv
@[simp] theorem F173_at (n : Int) (H : Hp) : F173 [.int .u64 1, .int .u64 n] H = if 0 ≤ n ∧ n ≤ 4 then some (.tup [.int .u64 0, .int .u64 n]) else none := by simp [F173]
set_option maxHeartbeats 1000000 in
theorem snd158 : Sound Try.prog 158 (FSem.pure F173).run := by
  refine sound_of hT (EOK_cons snd173 (EOK_nil _)) mixed A158 Try.func158 hb158 (by kernel_rfl) (by kernel_rfl) (by kernel_rfl) (by kernel_rfl) sh158 2 (by kernel_rfl) rs158 hr158 ?_
  intro args H r H' hw h
  obtain ⟨rfl, hv⟩ := pureAt h
  clear h
  unfold F173 at hv
  split at hv
  · rename_i a n
    split at hv
    rotate_left
    · cases hv
    rename_i hc
    obtain ⟨rfl, h0, h4⟩ := hc
    cases hv
    refine ⟨rfl, go ?_⟩
    unfold c158
    simp only [argSl]
    repeat' (first | apply goSeq | apply goReg | apply goSeqN | apply goSeqR | apply goSkip | apply goRet | apply goNil | apply goBlock | apply goExit | apply goBlkN | apply goBlkR | apply goBlkE | apply goSeqE | apply goLoopR | apply goLoopE | (apply goOp; (· (simp [*]; try exact rfl)); (· exact rfl)) | (apply goOp0; (· (simp [*]; try exact rfl)); (· exact rfl)) | (apply goYes; (· (simp [*]; done)); (· (simp [*]; try exact rfl)); (· exact rfl)) | (apply goNo; (· (simp [*]; done))) | (apply goNoU; (· (simp; exact rfl))) | (apply goIfT; (· (simp [*]; done))) | (apply goIfF; (· (simp [*]; done))) | (apply goIf; (· (simp; exact rfl)); (· with_reducible exact rfl)) | (apply goSplit; (· (simp; exact rfl)); (· with_reducible exact rfl)) | (apply goIfQ; (· (simp; exact rfl)); (· exact rfl)) | (apply goSplitQ; (· (simp; exact rfl)); (· exact rfl)) | (apply goBlkX; (· rfl)) | intro _)
    all_goals exact goEnd hw (Pre.refl _) (by simp) (by simp [rs158]; exact rfl) rfl rfl
  · cases hv

def F128 (args : List AV) (H : Hp) : Option (AV × Hp) := match args with
  | [x, .int .i64 n] => (ints H x).bind fun l => if l.length = 1 ∧ 0 ≤ n ∧ n ≤ 4 then some (mkF H (List.replicate n.toNat (nth l 0))) else none
  | _ => none
theorem wrapU : ∀ n : Nat, n < 5 → IntKind.u64.wrap n = n := by decide
set_option maxHeartbeats 1000000 in
theorem snd128 : Sound Try.prog 128 (FSem.eff F128).run := by
  refine sound_of hT (EOK_cons snd158 (EOK_nil _)) mixed A128 Try.func128 hb128 (by kernel_rfl) (by kernel_rfl) (by kernel_rfl) (by kernel_rfl) sh128 2 (by kernel_rfl) rs128 hr128 ?_
  intro args H r H' hw h
  have hv : F128 args H = some (r, H') := h
  clear h
  unfold F128 at hv
  split at hv
  · rename_i x nn
    obtain ⟨l, hl, hv⟩ := Option.bind_eq_some_iff.1 hv
    split at hv
    rotate_left
    · cases hv
    rename_i hc
    obtain ⟨h1, h0, h4⟩ := hc
    replace hv := Option.some.inj hv
    obtain ⟨n, rfl⟩ : ∃ n : Nat, nn = n := ⟨nn.toNat, by omega⟩
    rw [Int.toNat_natCast] at hv
    obtain ⟨y, rfl⟩ : ∃ y, l = [y] := by
      match l, h1 with
      | [y], _ => exact ⟨y, rfl⟩
    have hy : nth [y] 0 = y := rfl
    rw [hy] at hv
    have hlen := alenS_ints hl
    simp only [← alen22] at hlen
    have hlen : alen T 22 x = some (.int .i64 1) := hlen
    have hw1 : IntKind.u64.wrap 1 = 1 := by decide
    have hwn : IntKind.u64.wrap n = n := wrapU n (by omega)
    have hwi : IntKind.i64.wrap n = n := w_id (by omega)
    have hcv : ∀ m : Int, aconv T 3 159 (.int .i64 m) = some (.int .u64 (IntKind.u64.wrap m)) := fun m => by simp [aconv, T3, D159]
    have hcv2 : ∀ m : Int, aconv T 159 3 (.int .u64 m) = some (.int .i64 (IntKind.i64.wrap m)) := fun m => by
      have : T.d 3 = .int .i64 := by simp [Tab.d, T3]
      simp [aconv, T159, this]
    have hn4 : (n : Int) ≤ 4 := by omega
    have hn0 : (0 : Int) ≤ n := by omega
    have hnb : ¬ (9223372036854775807 : Int) < n := by omega
    replace hv := Hide.mk hv
    replace hl := Hide.mk hl
    refine ⟨rfl, go ?_⟩
    unfold c128
    simp only [argSl]
    repeat' (first | apply goSeq | apply goReg | apply goSeqN | apply goSeqR | apply goSkip | apply goRet | apply goNil | apply goBlock | apply goExit | apply goBlkN | apply goBlkR | apply goBlkE | apply goSeqE | apply goLoopR | apply goLoopE | (apply goOp; (· (simp [*]; try exact rfl)); (· exact rfl)) | (apply goOp0; (· (simp [*]; try exact rfl)); (· exact rfl)) | (apply goYes; (· (simp [*]; done)); (· (simp [*]; try exact rfl)); (· exact rfl)) | (apply goNo; (· (simp [*]; done))) | (apply goNoU; (· (simp; exact rfl))) | (apply goIfT; (· (simp [*]; done))) | (apply goIfF; (· (simp [*]; done))) | (apply goIf; (· (simp; exact rfl)); (· with_reducible exact rfl)) | (apply goSplit; (· (simp; exact rfl)); (· with_reducible exact rfl)) | (apply goIfQ; (· (simp; exact rfl)); (· exact rfl)) | (apply goSplitQ; (· (simp; exact rfl)); (· exact rfl)) | (apply goBlkX; (· rfl)) | intro _)
    obtain ⟨u, H1, e, ho, he⟩ := make_own (Ext.refl hw) n (by omega)
    refine goOp (v := u) (H' := H1) rfl (by simp; exact e) ?_
    clear e
    obtain ⟨H2, e, ho2, he2⟩ := copy_into hw he ho (ints_ext he.pre hl.out) (min 1 n) (by simp)
    rw [← acp22] at e
    clear ho he
    replace ho2 := Hide.mk ho2
    repeat' (first | apply goSeq | apply goReg | apply goSeqN | apply goSeqR | apply goSkip | apply goRet | apply goNil | apply goBlock | apply goExit | apply goBlkN | apply goBlkR | apply goBlkE | apply goSeqE | apply goLoopR | apply goLoopE | (apply goOp; (· (simp [*]; try exact rfl)); (· exact rfl)) | (apply goOp0; (· (simp [*]; try exact rfl)); (· exact rfl)) | (apply goYes; (· (simp [*]; done)); (· (simp [*]; try exact rfl)); (· exact rfl)) | (apply goNo; (· (simp [*]; done))) | (apply goNoU; (· (simp; exact rfl))) | (apply goIfT; (· (simp [*]; done))) | (apply goIfF; (· (simp [*]; done))) | (apply goIf; (· (simp; exact rfl)); (· with_reducible exact rfl)) | (apply goSplit; (· (simp; exact rfl)); (· with_reducible exact rfl)) | (apply goIfQ; (· (simp; exact rfl)); (· exact rfl)) | (apply goSplitQ; (· (simp; exact rfl)); (· exact rfl)) | (apply goBlkX; (· rfl)) | intro _)
    clear e
    have hx22 := @xdo_slice22
    refine goLoop (fun m s1 G => Ext H G ∧ ∃ (k : Nat), m = n - k ∧ k ≤ n ∧ (1 ≤ k ∨ n = 0) ∧ get s1 7 = u ∧ get s1 8 = .int .i64 k ∧ OwnF H G u (List.replicate k y ++ List.replicate (n - k) 0)) (n - min 1 n) ?_ ?_
    · refine ⟨he2, min 1 n, ?_, by omega, by omega, rfl, rfl, ?_⟩
      · rfl
      · have := ho2.out
        rcases Nat.eq_zero_or_pos n with h | h
        · subst h; simpa using this
        · rw [show min 1 n = 1 by omega] at this ⊢
          simpa using this
    · clear he2 ho2
      rintro m s1 G ⟨he, k, hmm, hk, hk1, g1, g2, ho⟩
      simp only [cut_cons, cut_nil, g1, g2]
      clear g1 g2
      have hlu : alen T 22 u = some (.int .i64 n) := by
        have := alenS_ints (ints_of_ownF ho (by simp; omega))
        rw [alen22, this]; simp; omega
      by_cases hkn : k < n
      · obtain ⟨d, x', H3, e1, e2, e3, ho3, he3⟩ := copy_own hw he ho (min k (n - k)) (by simp)
        rw [← acp22] at e3
        simp only [List.length_replicate] at e1 e2
        have hwk : w ((k : Int) + ((min k (n - k) : Nat) : Int)) = ((k + min k (n - k) : Nat) : Int) := w_id (by omega)
        generalize hcc : min k (n - k) = c at *
        replace ho3 := Hide.mk ho3
        replace ho := Hide.mk ho
        clear hwi hwn hw1 hcv hcv2 hn4 hn0 hnb
        repeat' (first | apply goSeq | apply goReg | apply goSeqN | apply goSeqR | apply goSkip | apply goRet | apply goNil | apply goBlock | apply goExit | apply goBlkN | apply goBlkR | apply goBlkE | apply goSeqE | apply goLoopR | apply goLoopE | (apply goOp; (· (simp [*]; try exact rfl)); (· exact rfl)) | (apply goOp0; (· (simp [*]; try exact rfl)); (· exact rfl)) | (apply goYes; (· (simp [*]; done)); (· (simp [*]; try exact rfl)); (· exact rfl)) | (apply goNo; (· (simp [*]; done))) | (apply goNoU; (· (simp; exact rfl))) | (apply goIfT; (· (simp [*]; done))) | (apply goIfF; (· (simp [*]; done))) | (apply goIf; (· (simp; exact rfl)); (· with_reducible exact rfl)) | (apply goSplit; (· (simp; exact rfl)); (· with_reducible exact rfl)) | (apply goIfQ; (· (simp; exact rfl)); (· exact rfl)) | (apply goSplitQ; (· (simp; exact rfl)); (· exact rfl)) | (apply goBlkX; (· rfl)) | intro _)
        refine goLoopN (n - (k + c)) (by omega) ⟨he3, k + c, rfl, by omega, by omega, rfl, rfl, ?_⟩
        have := ho3.out
        rw [List.take_replicate, List.drop_replicate, List.replicate_append_replicate] at this
        rw [show min c k = c by omega, show n - k - c = n - (k + c) by omega] at this
        exact this
      · replace ho := Hide.mk ho
        repeat' (first | apply goSeq | apply goReg | apply goSeqN | apply goSeqR | apply goSkip | apply goRet | apply goNil | apply goBlock | apply goExit | apply goBlkN | apply goBlkR | apply goBlkE | apply goSeqE | apply goLoopR | apply goLoopE | (apply goOp; (· (simp [*]; try exact rfl)); (· exact rfl)) | (apply goOp0; (· (simp [*]; try exact rfl)); (· exact rfl)) | (apply goYes; (· (simp [*]; done)); (· (simp [*]; try exact rfl)); (· exact rfl)) | (apply goNo; (· (simp [*]; done))) | (apply goNoU; (· (simp; exact rfl))) | (apply goIfT; (· (simp [*]; done))) | (apply goIfF; (· (simp [*]; done))) | (apply goIf; (· (simp; exact rfl)); (· with_reducible exact rfl)) | (apply goSplit; (· (simp; exact rfl)); (· with_reducible exact rfl)) | (apply goIfQ; (· (simp; exact rfl)); (· exact rfl)) | (apply goSplitQ; (· (simp; exact rfl)); (· exact rfl)) | (apply goBlkX; (· rfl)) | intro _)
        refine goEndF hw he ho.out (by simp) (by simp [rs128]) rfl ?_
        rw [← hv.out, show k = n by omega]
        simp
  · cases hv

/-- A whole spec. -/
def wholeL (n : Int) : List Int := List.replicate n.toNat (-1)
def F68 (args : List AV) (H : Hp) : Option (AV × Hp) := match args with
  | [.int .i64 n] => some (if n < 0 ∨ 4 < n then (.nilS, H) else mkF H (wholeL n))
  | _ => none
set_option maxHeartbeats 1000000 in
theorem snd68 : Sound Try.prog 68 (FSem.eff F68).run := by
  refine sound_of hT (EOK_cons snd128 (EOK_nil _)) mixed A68 Try.func68 hb68 (by kernel_rfl) (by kernel_rfl) (by kernel_rfl) (by kernel_rfl) sh68 1 (by kernel_rfl) rs68 hr68 ?_
  intro args H r H' hw h
  have hv : F68 args H = some (r, H') := h
  clear h
  unfold F68 at hv
  split at hv
  · rename_i n
    replace hv := Option.some.inj hv
    replace hv := Hide.mk hv
    have hb1 := @xdo_bs22_1
    refine ⟨rfl, go ?_⟩
    unfold c68
    simp only [argSl]
    by_cases h0 : n < 0
    · repeat' (first | apply goSeq | apply goReg | apply goSeqN | apply goSeqR | apply goSkip | apply goRet | apply goNil | apply goBlock | apply goExit | apply goBlkN | apply goBlkR | apply goBlkE | apply goSeqE | apply goLoopR | apply goLoopE | (apply goOp; (· (simp [*]; try exact rfl)); (· exact rfl)) | (apply goOp0; (· (simp [*]; try exact rfl)); (· exact rfl)) | (apply goYes; (· (simp [*]; done)); (· (simp [*]; try exact rfl)); (· exact rfl)) | (apply goNo; (· (simp [*]; done))) | (apply goNoU; (· (simp; exact rfl))) | (apply goIfT; (· (simp [*]; done))) | (apply goIfF; (· (simp [*]; done))) | (apply goIf; (· (simp; exact rfl)); (· with_reducible exact rfl)) | (apply goSplit; (· (simp; exact rfl)); (· with_reducible exact rfl)) | (apply goIfQ; (· (simp; exact rfl)); (· exact rfl)) | (apply goSplitQ; (· (simp; exact rfl)); (· exact rfl)) | (apply goBlkX; (· rfl)) | intro _)
      have hv := hv.out
      rw [if_pos (.inl h0)] at hv
      exact goEndS (l := []) hw (Ext.refl hw) (.inl ⟨rfl, rfl⟩) (by simp) (by simp [rs68]) rfl hv
    by_cases h4 : 4 < n
    · repeat' (first | apply goSeq | apply goReg | apply goSeqN | apply goSeqR | apply goSkip | apply goRet | apply goNil | apply goBlock | apply goExit | apply goBlkN | apply goBlkR | apply goBlkE | apply goSeqE | apply goLoopR | apply goLoopE | (apply goOp; (· (simp [*]; try exact rfl)); (· exact rfl)) | (apply goOp0; (· (simp [*]; try exact rfl)); (· exact rfl)) | (apply goYes; (· (simp [*]; done)); (· (simp [*]; try exact rfl)); (· exact rfl)) | (apply goNo; (· (simp [*]; done))) | (apply goNoU; (· (simp; exact rfl))) | (apply goIfT; (· (simp [*]; done))) | (apply goIfF; (· (simp [*]; done))) | (apply goIf; (· (simp; exact rfl)); (· with_reducible exact rfl)) | (apply goSplit; (· (simp; exact rfl)); (· with_reducible exact rfl)) | (apply goIfQ; (· (simp; exact rfl)); (· exact rfl)) | (apply goSplitQ; (· (simp; exact rfl)); (· exact rfl)) | (apply goBlkX; (· rfl)) | intro _)
      have hv := hv.out
      rw [if_pos (.inr h4)] at hv
      exact goEndS (l := []) hw (Ext.refl hw) (.inl ⟨rfl, rfl⟩) (by simp) (by simp [rs68]) rfl hv
    have hv := hv.out
    rw [if_neg (by omega)] at hv
    have hi := ints_of_ownF (mkF_own H [-1]) (by simp)
    have hE := mkF_ext hw [-1]
    have e128 : F128 [.sl H.bs.length H.c 0 1 1 true, .int .i64 n] (H.new [.int .i64 (-1)]) = some (mkF (H.new [.int .i64 (-1)]) (wholeL n)) := by
      have hi' : ints (H.new [.int .i64 (-1)]) (.sl H.bs.length H.c 0 1 1 true) = some [-1] := hi
      show (ints _ _).bind _ = _
      rw [hi', Option.bind_some, if_pos ⟨rfl, by omega, by omega⟩]
      rfl
    have hE2 := mkF_ext hE.wf (wholeL n)
    have hO := mkF_own (H.new [.int .i64 (-1)]) (wholeL n)
    have hE3 : Ext H (mkF (H.new [.int .i64 (-1)]) (wholeL n)).2 := hE.trans hE2
    generalize mkF (H.new [.int .i64 (-1)]) (wholeL n) = r2 at *
    obtain ⟨u, H2⟩ := r2
    replace hE := Hide.mk hE
    replace hE2 := Hide.mk hE2
    replace hE3 := Hide.mk hE3
    replace hO := Hide.mk hO
    replace hv := Hide.mk hv
    repeat' (first | apply goSeq | apply goReg | apply goSeqN | apply goSeqR | apply goSkip | apply goRet | apply goNil | apply goBlock | apply goExit | apply goBlkN | apply goBlkR | apply goBlkE | apply goSeqE | apply goLoopR | apply goLoopE | (apply goOp; (· (simp [*]; try exact rfl)); (· exact rfl)) | (apply goOp0; (· (simp [*]; try exact rfl)); (· exact rfl)) | (apply goYes; (· (simp [*]; done)); (· (simp [*]; try exact rfl)); (· exact rfl)) | (apply goNo; (· (simp [*]; done))) | (apply goNoU; (· (simp; exact rfl))) | (apply goIfT; (· (simp [*]; done))) | (apply goIfF; (· (simp [*]; done))) | (apply goIf; (· (simp; exact rfl)); (· with_reducible exact rfl)) | (apply goSplit; (· (simp; exact rfl)); (· with_reducible exact rfl)) | (apply goIfQ; (· (simp; exact rfl)); (· exact rfl)) | (apply goSplitQ; (· (simp; exact rfl)); (· exact rfl)) | (apply goBlkX; (· rfl)) | intro _)
    refine goEndF (v := u) hw hE3.out ?_ (by simp) (by simp [rs68]) rfl hv.out
    obtain ⟨b, ver, q1, q2, q3⟩ := hO.out
    exact ⟨b, ver, q1, Nat.le_trans (Nat.le_succ _) q2, q3⟩
  · cases hv
end Go.Proofs.Ytokadkakmhfdeaa.Pq
