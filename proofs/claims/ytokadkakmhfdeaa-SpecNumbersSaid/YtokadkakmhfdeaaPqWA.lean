/- Walks: shapes of a tape. -/
import Derived.Test.YtokadkakmhfdeaaPqW9
set_option linter.unusedVariables false
set_option linter.unusedSimpArgs false
namespace Go.Proofs.Ytokadkakmhfdeaa.Pq
open Go.RowKit

theorem Tape.ext {H H1 : Hp} {b ver : Nat} {v : AV} {l : List Int} {a : Nat} (h : Tape H b ver v l a) (he : Pre H H1) : Tape H1 b ver v l a :=
  ⟨he.at h.at', ints_ext he h.ints, h.off, h.le, h.rng⟩
theorem Tape.put {H : Hp} {b ver : Nat} {v : AV} {l : List Int} {a a' : Nat} (h : Tape H b ver v l a) (ha : a' ≤ l.length) : Tape (tapePut H b ver v a') b ver v l a' :=
  ⟨at_put_same h.at' rfl, by unfold tapePut; rw [ints_put h.off]; exact h.ints, h.off, ha, h.rng⟩
theorem Tape.wf {H : Hp} {b ver : Nat} {v : AV} {l : List Int} {a a' : Nat} (h : Tape H b ver v l a) (hw : Wf H) : Wf (tapePut H b ver v a') := by
  obtain ⟨g1, g2⟩ := Hp.at_some h.at'
  have hb := (List.getElem?_eq_some_iff.1 g1).1
  intro i k hi
  by_cases e : b = i
  · subst e
    simp [tapePut, Hp.put, hb] at hi
    subst hi
    exact (hw b _ g1 : ver < H.c)
  · simp only [tapePut, Hp.put] at hi
    rw [List.getElem?_set_ne e] at hi
    exact hw i k hi
theorem nextAt_le {l : List Int} {a : Nat} {n : Int} (h : a ≤ l.length) : nextAt l a n ≤ l.length := by
  unfold nextAt; split <;> omega
theorem tape_tape (H : Hp) (b ver : Nat) (v : AV) (a a' : Nat) : tapePut (tapePut H b ver v a) b ver v a' = tapePut H b ver v a' := put_put _ _ _ _
/-- The tape is read on: what was made stays. -/
theorem Ext.tape {H H1 : Hp} {b ver : Nat} {v : AV} {l : List Int} {a a' : Nat} (h : Tape H b ver v l a) (he : Ext H H1) : Ext (tapePut H b ver v a') (tapePut H1 b ver v a') := by
  obtain ⟨g1, g2⟩ := Hp.at_some h.at'
  have hb := (List.getElem?_eq_some_iff.1 g1).1
  obtain ⟨m1, _⟩ := Hp.at_some (h.ext he.pre).at'
  have hb1 := (List.getElem?_eq_some_iff.1 m1).1
  refine ⟨?_, (h.ext he.pre).wf he.wf, he.c⟩
  intro i k hi
  by_cases e : b = i
  · subst e
    simp [tapePut, Hp.put, hb] at hi
    simp [tapePut, Hp.put, hb1, hi]
  · simp only [tapePut, Hp.put] at hi ⊢
    rw [List.getElem?_set_ne e] at hi ⊢
    exact he.pre i k hi
theorem Own.tape {H0 H1 : Hp} {b ver : Nat} {v u : AV} {l L : List Int} {a a' : Nat} (h : Tape H1 b ver v l a) (hver : ver < H0.c) (ho : Own H0 H1 u L) : Own H0 (tapePut H1 b ver v a') u L := by
  rcases ho with ho | ⟨b2, ver2, h1, h2, h3, hk⟩
  · exact .inl ho
  · refine .inr ⟨b2, ver2, h1, h2, h3, ?_⟩
    have hne : b2 ≠ b := by
      intro e
      subst e
      obtain ⟨g1, g2⟩ := Hp.at_some hk
      obtain ⟨g3, g4⟩ := Hp.at_some h.at'
      rw [g1] at g3
      have e := congrArg Blk.ver (Option.some.inj g3)
      simp only at e
      omega
    unfold tapePut
    rw [at_put hne]; exact hk
theorem OwnF.tape {H0 H1 : Hp} {b ver : Nat} {v u : AV} {l L : List Int} {a a' : Nat} (h : Tape H1 b ver v l a) (hver : ver < H0.c) (ho : OwnF H0 H1 u L) : OwnF H0 (tapePut H1 b ver v a') u L := by
  obtain ⟨b2, ver2, h1, h2, hk⟩ := ho
  refine ⟨b2, ver2, h1, h2, ?_⟩
  have hne : b2 ≠ b := by
    intro e
    subst e
    obtain ⟨g1, g2⟩ := Hp.at_some hk
    obtain ⟨g3, g4⟩ := Hp.at_some h.at'
    rw [g1] at g3
    have e := congrArg Blk.ver (Option.some.inj g3)
    simp only at e
    omega
  unfold tapePut
  rw [at_put hne]; exact hk
/-- What is handed back over a memory whose tape was read on. -/
theorem Can.tape {H H2 Hr : Hp} {b ver : Nat} {v : AV} {l : List Int} {a a' : Nat} {r2 r : AV} {js : List (Nat × Nat)} (hw : Wf H) (h : Tape H b ver v l a) (hc : Can (tapePut H b ver v a') H2 Hr r2 r js) : Can H H2 Hr r2 r js := by
  obtain ⟨g1, g2⟩ := Hp.at_some h.at'
  have hb := (List.getElem?_eq_some_iff.1 g1).1
  have hl : (tapePut H b ver v a').bs.length = H.bs.length := by simp [tapePut, Hp.put]
  refine ⟨hc.c, by rw [hc.len, hl], fun b0 hb0 => ?_, fun i j w' hi => ?_, hc.nodup, fun i k hk => hc.good i k (by rw [hl]; exact hk), by rw [← hl]; exact hc.r⟩
  · obtain ⟨k, e1, e2, e3, e4⟩ := hc.old b0 (by rw [hl]; exact hb0)
    rw [hl] at e4
    refine ⟨k, e1, e2, e3, ?_⟩
    rcases e4 with e4 | e4
    · by_cases e : b = b0
      · subst e
        simp [tapePut, Hp.put, hb] at e4
        subst e4
        exact .inr (by simp only [rels_cons, rels_nil, rel_int, rel_ints hw h.ints])
      · simp only [tapePut, Hp.put] at e4
        rw [List.getElem?_set_ne e] at e4
        exact .inl e4
    · exact .inr e4
  · obtain ⟨e1, k, e2, e3, e4⟩ := hc.new i j w' hi
    rw [hl] at e4
    exact ⟨e1, k, e2, e3, e4⟩

def lens : List Int := [1, 2, 3, 4, 5, 0, 7, 2]
theorem xdo_bs8 {E : Env} {sh : Bool} {s : Sl} {H : Hp} : xdo E T sh (.buildSlice 22 8 #[(0, (.const (.int .i64 1))), (1, (.const (.int .i64 2))), (2, (.const (.int .i64 3))), (3, (.const (.int .i64 4))), (4, (.const (.int .i64 5))), (5, (.const (.int .i64 0))), (6, (.const (.int .i64 7))), (7, (.const (.int .i64 2)))]) s H = some (.sl H.bs.length H.c 0 8 1 true, H.new (lens.map (.int .i64))) := by
  simp [xdo, aop, D22, T3, rep, afill, setAll, AV.cells, AV.one, lens]
def shapeT (l : List Int) : Nat → Nat → List Int × Nat
  | 0, a => ([], a)
  | n + 1, a => (nth lens (nextOf l a 8) :: (shapeT l n (nextAt l a 8)).1, (shapeT l n (nextAt l a 8)).2)
theorem tmod_range (x n : Int) (h : 1 ≤ n) (hx : 0 ≤ x) : 0 ≤ x.tmod n ∧ x.tmod n < n := ⟨Int.tmod_nonneg n hx, Int.tmod_lt_of_pos x (by omega)⟩
theorem within_range (n : Int) (hn : -9223372036854775808 ≤ n ∧ n < 9223372036854775808) : 0 ≤ within n 0 1073741824 := by
  unfold within
  split
  · omega
  · have h1 : w (w (1073741824 - 0) + 1) = 1073741825 := by decide
    rw [h1]
    have h2 := Int.tmod_lt_of_pos n (show (0 : Int) < 1073741825 by omega)
    have h3 : -1073741825 < n.tmod 1073741825 := by
      have := Int.tmod_lt_of_pos (-n) (show (0 : Int) < 1073741825 by omega)
      rw [Int.neg_tmod] at this
      omega
    split
    · rw [w_id (by rw [w_id (by rw [w_id (by rw [w_id (by omega)]; omega)]; rw [w_id (by omega)]; omega)]; rw [w_id (by rw [w_id (by omega)]; omega), w_id (by omega)]; omega)]
      rw [w_id (by rw [w_id (by rw [w_id (by omega)]; omega), w_id (by omega)]; omega), w_id (by rw [w_id (by omega)]; omega), w_id (by omega)]
      omega
    · rw [w_id (by omega)]; omega
theorem next_range {H : Hp} {b ver : Nat} {v : AV} {l : List Int} {a a' : Nat} (h : Tape H b ver v l a) (n : Int) (hn : 1 ≤ n) : 0 ≤ nextOf l a' n ∧ nextOf l a' n < n := by
  unfold nextOf
  split
  · rename_i h1
    exact tmod_range _ n hn (within_range _ (h.rng a' h1.1))
  · omega
open Classical in
noncomputable def tapeF (H : Hp) (b ver : Nat) (f : AV → List Int → Nat → AV × Hp) : Option (AV × Hp) :=
  if h : ∃ p : AV × List Int × Nat, Tape H b ver p.1 p.2.1 p.2.2 then some (f h.choose.1 h.choose.2.1 h.choose.2.2) else none
theorem tapeF_at {H : Hp} {b ver : Nat} {f : AV → List Int → Nat → AV × Hp} {v : AV} {l : List Int} {a : Nat} (h : Tape H b ver v l a) : tapeF H b ver f = some (f v l a) := by
  have hex : ∃ p : AV × List Int × Nat, Tape H b ver p.1 p.2.1 p.2.2 := ⟨(v, l, a), h⟩
  have := Tape.uniq hex.choose_spec h
  unfold tapeF
  rw [dif_pos hex, this.1, this.2.1, this.2.2]
theorem tapeF_some {H : Hp} {b ver : Nat} {f : AV → List Int → Nat → AV × Hp} {x : AV × Hp} (h : tapeF H b ver f = some x) : ∃ v l a, Tape H b ver v l a ∧ f v l a = x := by
  unfold tapeF at h
  split at h
  · rename_i hex
    exact ⟨_, _, _, hex.choose_spec, Option.some.inj h⟩
  · cases h
noncomputable def F17 (args : List AV) (H : Hp) : Option (AV × Hp) := match args with
  | [.ptr b ver 0] => tapeF H b ver fun v l a => mkS (tapePut H b ver v (shapeT l (nextOf l a 4).toNat (nextAt l a 4)).2) (shapeT l (nextOf l a 4).toNat (nextAt l a 4)).1
  | _ => none
theorem goEndSt {E : Env} {H0 H : Hp} {b ver : Nat} {v0 : AV} {l0 : List Int} {a a' : Nat} {x : Ex} {s : Sl} {rs : List ResultVar} {q : Option (List AV)} {v : AV} {l : List Int} {r : AV} {Hr : Hp} (hw : Wf H0) (ht : Tape H0 b ver v0 l0 a) (he : Ext (tapePut H0 b ver v0 a') H) (ho : Own (tapePut H0 b ver v0 a') H v l) (hx : x = .norm ∨ x = .ret) (e : xres T s H rs = q) (eq : q = some [v]) (hr : mkS (tapePut H0 b ver v0 a') l = (r, Hr)) :
    K E T (.fin fun x s' H2 => (x = .norm ∨ x = .ret) ∧ ∃ vs js, xres T s' H2 rs = some vs ∧ Can H0 H2 Hr (xret vs) r js) x s H := by
  obtain ⟨h1, vs, js, h2, h3⟩ := (goEndS (E := E) (ht.wf hw) he ho hx e eq hr).out
  exact ⟨⟨h1, vs, js, h2, h3.tape hw ht⟩⟩
set_option maxHeartbeats 1000000 in
theorem snd17 : Sound Try.prog 17 (FSem.eff F17).run := by
  refine sound_of hT (EOK_cons snd16 (EOK_nil _)) mixed A17 Try.func17 hb17 (by kernel_rfl) (by kernel_rfl) (by kernel_rfl) (by kernel_rfl) sh17 1 (by kernel_rfl) rs17 hr17 ?_
  intro args H r H' hw h
  have hv : F17 args H = some (r, H') := h
  clear h
  unfold F17 at hv
  split at hv
  · rename_i b ver
    obtain ⟨v, l, a, ht, hv⟩ := tapeF_some hv
    have e16 := F16_at ht 4
    have hver : ver < H.c := at_lt hw ht.at'
    refine ⟨rfl, go ?_⟩
    unfold c17
    simp only [argSl]
    have ht' := Hide.mk ht
    clear ht
    replace hv := Hide.mk hv
    repeat' (first | apply goSeq | apply goReg | apply goSeqN | apply goSeqR | apply goSkip | apply goRet | apply goNil | apply goBlock | apply goExit | apply goBlkN | apply goBlkR | apply goBlkE | apply goSeqE | apply goLoopR | apply goLoopE | (apply goOp; (· (simp [*]; try exact rfl)); (· exact rfl)) | (apply goOp0; (· (simp [*]; try exact rfl)); (· exact rfl)) | (apply goYes; (· (simp [*]; done)); (· (simp [*]; try exact rfl)); (· exact rfl)) | (apply goNo; (· (simp [*]; done))) | (apply goNoU; (· (simp; exact rfl))) | (apply goIfT; (· (simp [*]; done))) | (apply goIfF; (· (simp [*]; done))) | (apply goIf; (· (simp; exact rfl)); (· with_reducible exact rfl)) | (apply goSplit; (· (simp; exact rfl)); (· with_reducible exact rfl)) | (apply goIfQ; (· (simp; exact rfl)); (· exact rfl)) | (apply goSplitQ; (· (simp; exact rfl)); (· exact rfl)) | (apply goBlkX; (· rfl)) | intro _)
    have ht := ht'.out
    have hn := next_range (a' := a) ht 4 (by omega)
    obtain ⟨n, hn2⟩ : ∃ n : Nat, nextOf l a 4 = n := ⟨(nextOf l a 4).toNat, by omega⟩
    have hv := hv.out
    rw [hn2, Int.toNat_natCast] at hv
    rw [hn2]
    rw [hn2] at hn
    refine goLoop (fun m s1 H1 => ∃ (a1 : Nat) (u : AV) (L1 : List Int), a1 ≤ l.length ∧ L1.length + m ≤ 3 ∧ get s1 0 = .ptr b ver 0 ∧ get s1 3 = u ∧ get s1 4 = .int .i64 (m : Nat) ∧ Ext (tapePut H b ver v a1) H1 ∧ Own H H1 u L1 ∧ L1 ++ (shapeT l m a1).1 = (shapeT l n (nextAt l a 4)).1 ∧ (shapeT l m a1).2 = (shapeT l n (nextAt l a 4)).2) n ?_ ?_
    · exact ⟨nextAt l a 4, .nilS, [], nextAt_le ht.le, by simp; omega, rfl, rfl, rfl, Ext.refl (ht.wf hw), .inl ⟨rfl, rfl⟩, by simp, rfl⟩
    · rintro m s1 H1 ⟨a1, u, L1, ha1, hlm, g1, g2, g3, he, ho, hL, hA⟩
      simp only [cut_cons, cut_nil, g1, g2, g3]
      clear g1 g2 g3 e16
      have hm0 : (0 : Int) ≤ m := Int.natCast_nonneg m
      cases m with
      | zero =>
        replace hL := Hide.mk hL
        replace hA := Hide.mk hA
        replace ho := Hide.mk ho
        repeat' (first | apply goSeq | apply goReg | apply goSeqN | apply goSeqR | apply goSkip | apply goRet | apply goNil | apply goBlock | apply goExit | apply goBlkN | apply goBlkR | apply goBlkE | apply goSeqE | apply goLoopR | apply goLoopE | (apply goOp; (· (simp [*]; try exact rfl)); (· exact rfl)) | (apply goOp0; (· (simp [*]; try exact rfl)); (· exact rfl)) | (apply goYes; (· (simp [*]; done)); (· (simp [*]; try exact rfl)); (· exact rfl)) | (apply goNo; (· (simp [*]; done))) | (apply goNoU; (· (simp; exact rfl))) | (apply goIfT; (· (simp [*]; done))) | (apply goIfF; (· (simp [*]; done))) | (apply goIf; (· (simp; exact rfl)); (· with_reducible exact rfl)) | (apply goSplit; (· (simp; exact rfl)); (· with_reducible exact rfl)) | (apply goIfQ; (· (simp; exact rfl)); (· exact rfl)) | (apply goSplitQ; (· (simp; exact rfl)); (· exact rfl)) | (apply goBlkX; (· rfl)) | intro _)
        refine goEndSt (a' := a1) hw ht he (Own.old ho.out (Nat.le_refl _)) (by simp) (by simp [rs17]) rfl ?_
        have h1 := hL.out
        have h2 := hA.out
        simp only [shapeT, List.append_nil] at h1 h2
        rw [← hv, h1, h2]
      | succ m =>
        have ht1 : Tape (H1.new (lens.map (.int .i64))) b ver v l a1 := ((ht.put ha1).ext he.pre).ext (Pre.new (Pre.refl _) _)
        have e16 := F16_at ht1 8
        have hb8 := @xdo_bs8
        have hwm : w (m : Int) = (m : Int) := w_id (by omega)
        have hpos : (0 : Int) < ((m + 1 : Nat) : Int) := by omega
        replace hL := Hide.mk hL
        replace hA := Hide.mk hA
        replace ho := Hide.mk ho
        obtain ⟨hr1, hr2⟩ := next_range (a' := a1) ht 8 (by omega)
        have hbl : b < H1.bs.length := by
          obtain ⟨g1, _⟩ := Hp.at_some ((ht.put ha1).ext he.pre).at'
          exact (List.getElem?_eq_some_iff.1 g1).1
        have hil : ints (tapePut (H1.new (lens.map (.int .i64))) b ver v (nextAt l a1 8)) (.sl H1.bs.length H1.c 0 8 1 true) = some lens := by
          unfold tapePut
          rw [ints_put (by simp [off]; omega)]
          exact ints_of_ownF (mkF_own H1 lens) (by decide)
        have hix := aidxS_ints hil .i64
        have hld := aload_nth T3 rfl hil
        simp only [← aidx22, show ((lens.length : Nat) : Int) = 8 from rfl] at hix hld
        have ht2 : Tape (tapePut (H1.new (lens.map (.int .i64))) b ver v (nextAt l a1 8)) b ver v l (nextAt l a1 8) := ht1.put (nextAt_le ha1)
        have he2 : Ext (tapePut H b ver v (nextAt l a1 8)) (tapePut (H1.new (lens.map (.int .i64))) b ver v (nextAt l a1 8)) := by
          have := Ext.tape (a' := nextAt l a1 8) (ht.put ha1) (he.new (lens.map (.int .i64)))
          rwa [tape_tape] at this
        replace ht1 := Hide.mk ht1
        replace ht2 := Hide.mk ht2
        replace hv := Hide.mk hv
        repeat' (first | apply goSeq | apply goReg | apply goSeqN | apply goSeqR | apply goSkip | apply goRet | apply goNil | apply goBlock | apply goExit | apply goBlkN | apply goBlkR | apply goBlkE | apply goSeqE | apply goLoopR | apply goLoopE | (apply goOp; (· (simp [*]; try exact rfl)); (· exact rfl)) | (apply goOp0; (· (simp [*]; try exact rfl)); (· exact rfl)) | (apply goYes; (· (simp [*]; done)); (· (simp [*]; try exact rfl)); (· exact rfl)) | (apply goNo; (· (simp [*]; done))) | (apply goNoU; (· (simp; exact rfl))) | (apply goIfT; (· (simp [*]; done))) | (apply goIfF; (· (simp [*]; done))) | (apply goIf; (· (simp; exact rfl)); (· with_reducible exact rfl)) | (apply goSplit; (· (simp; exact rfl)); (· with_reducible exact rfl)) | (apply goIfQ; (· (simp; exact rfl)); (· exact rfl)) | (apply goSplitQ; (· (simp; exact rfl)); (· exact rfl)) | (apply goBlkX; (· rfl)) | intro _)
        have ho2 : Own (tapePut H b ver v (nextAt l a1 8)) (tapePut (H1.new (lens.map (.int .i64))) b ver v (nextAt l a1 8)) u L1 := Own.tape ht1.out hver ((Own.new ho.out _).old (Nat.le_refl _))
        obtain ⟨u', H2, e, ho', he'⟩ := app_own (ht.wf hw) he2 ho2 (by omega) (nth lens (nextOf l a1 8))
        refine goOp (v := u') (H' := H2) rfl (by simp; exact e) ?_
        clear e
        replace ho' := Hide.mk ho'
        repeat' (first | apply goSeq | apply goReg | apply goSeqN | apply goSeqR | apply goSkip | apply goRet | apply goNil | apply goBlock | apply goExit | apply goBlkN | apply goBlkR | apply goBlkE | apply goSeqE | apply goLoopR | apply goLoopE | (apply goOp; (· (simp [*]; try exact rfl)); (· exact rfl)) | (apply goOp0; (· (simp [*]; try exact rfl)); (· exact rfl)) | (apply goYes; (· (simp [*]; done)); (· (simp [*]; try exact rfl)); (· exact rfl)) | (apply goNo; (· (simp [*]; done))) | (apply goNoU; (· (simp; exact rfl))) | (apply goIfT; (· (simp [*]; done))) | (apply goIfF; (· (simp [*]; done))) | (apply goIf; (· (simp; exact rfl)); (· with_reducible exact rfl)) | (apply goSplit; (· (simp; exact rfl)); (· with_reducible exact rfl)) | (apply goIfQ; (· (simp; exact rfl)); (· exact rfl)) | (apply goSplitQ; (· (simp; exact rfl)); (· exact rfl)) | (apply goBlkX; (· rfl)) | intro _)
        refine goLoopN m (by omega) ⟨nextAt l a1 8, u', L1 ++ [nth lens (nextOf l a1 8)], nextAt_le ha1, by simp; omega, rfl, rfl, rfl, he', ho'.out.old (Nat.le_refl _), ?_, hA.out⟩
        rw [← hL.out]
        simp [shapeT]
  · cases hv
end Go.Proofs.Ytokadkakmhfdeaa.Pq
