/- Walks: specs of a tape. -/
import Derived.Test.YtokadkakmhfdeaaPqWA
import Derived.Test.YtokadkakmhfdeaaPqVb
set_option linter.unusedVariables false
set_option linter.unusedSimpArgs false
namespace Go.Proofs.Ytokadkakmhfdeaa.Pq
open Go.RowKit

theorem OwnC.tape {H0 H1 : Hp} {b ver b2 ver2 : Nat} {v : AV} {l : List Int} {cs : List AV} {a a' : Nat} (h : Tape H1 b ver v l a) (hver : ver < H0.c) (ho : OwnC H0 H1 b2 ver2 cs) : OwnC H0 (tapePut H1 b ver v a') b2 ver2 cs := by
  refine ho.put ?_
  intro e
  subst e
  obtain ⟨g1, g2⟩ := Hp.at_some ho.at'
  obtain ⟨g3, g4⟩ := Hp.at_some h.at'
  rw [g1] at g3
  have e := congrArg Blk.ver (Option.some.inj g3)
  have := ho.new
  simp only at e
  omega
theorem aidx82 (v i : AV) : aidx T 82 v i = aidxS 1 v i := by simp [aidx, D82, T4]
/-- A spec of a tape: what is told from here on, and how far the tape is read then. -/
def specT (l : List Int) (k : Nat) : Nat → Nat → List Bool → List Int × Nat
  | 0, a, _ => ([], a)
  | m + 1, a, us =>
    if 0 < k then
      (if nextOf l a 2 = 0 then
        (if us.getD (nextOf l (nextAt l a 2) k).toNat false = true then (-1 :: (specT l k m (nextAt l (nextAt l a 2) k) us).1, (specT l k m (nextAt l (nextAt l a 2) k) us).2)
        else (nextOf l (nextAt l a 2) k :: (specT l k m (nextAt l (nextAt l a 2) k) (us.set (nextOf l (nextAt l a 2) k).toNat true)).1, (specT l k m (nextAt l (nextAt l a 2) k) (us.set (nextOf l (nextAt l a 2) k).toNat true)).2))
      else (-1 :: (specT l k m (nextAt l a 2) us).1, (specT l k m (nextAt l a 2) us).2))
    else (-1 :: (specT l k m a us).1, (specT l k m a us).2)
theorem goEndFt {E : Env} {H0 H : Hp} {b ver : Nat} {v0 : AV} {l0 : List Int} {a a' : Nat} {x : Ex} {s : Sl} {rs : List ResultVar} {q : Option (List AV)} {v : AV} {l : List Int} {r : AV} {Hr : Hp} (hw : Wf H0) (ht : Tape H0 b ver v0 l0 a) (he : Ext (tapePut H0 b ver v0 a') H) (ho : OwnF (tapePut H0 b ver v0 a') H v l) (hx : x = .norm ∨ x = .ret) (e : xres T s H rs = q) (eq : q = some [v]) (hr : mkF (tapePut H0 b ver v0 a') l = (r, Hr)) :
    K E T (.fin fun x s' H2 => (x = .norm ∨ x = .ret) ∧ ∃ vs js, xres T s' H2 rs = some vs ∧ Can H0 H2 Hr (xret vs) r js) x s H := by
  obtain ⟨h1, vs, js, h2, h3⟩ := (goEndF (E := E) (ht.wf hw) he ho hx e eq hr).out
  exact ⟨⟨h1, vs, js, h2, h3.tape hw ht⟩⟩
theorem take_set1 (L : List Int) (i : Nat) (x : Int) (h : i < L.length) : (L.set i x).take (i + 1) = L.take i ++ [x] := by
  rw [List.take_add_one, List.getElem?_set]
  simp [h, List.take_set_of_le]
noncomputable def F18 (args : List AV) (H : Hp) : Option (AV × Hp) := match args with
  | [.ptr b ver 0, sz, .int .i64 n] => (ints H sz).bind fun z => if 0 ≤ n ∧ n < 1048576 ∧ z.length < 1048576 ∧ off sz b = true then tapeF H b ver fun v l a => mkF (tapePut H b ver v (specT l z.length n.toNat a (List.replicate z.length false)).2) (specT l z.length n.toNat a (List.replicate z.length false)).1 else none
  | _ => none
set_option maxHeartbeats 1000000 in
theorem snd18 : Sound Try.prog 18 (FSem.eff F18).run := by
  refine sound_of hT (EOK_cons snd16 (EOK_nil _)) mixed A18 Try.func18 hb18 (by kernel_rfl) (by kernel_rfl) (by kernel_rfl) (by kernel_rfl) sh18 3 (by kernel_rfl) rs18 hr18 ?_
  intro args H r H' hw h
  have hv : F18 args H = some (r, H') := h
  clear h
  unfold F18 at hv
  split at hv
  · rename_i b ver sz nn
    obtain ⟨z, hz, hv⟩ := Option.bind_eq_some_iff.1 hv
    split at hv
    rotate_left
    · cases hv
    rename_i hc
    obtain ⟨hn0, hn1, hz1, hoff⟩ := hc
    obtain ⟨v, l, a, ht, hv⟩ := tapeF_some hv
    obtain ⟨n, rfl⟩ : ∃ n : Nat, nn = n := ⟨nn.toNat, by omega⟩
    have hver : ver < H.c := at_lt hw ht.at'
    have hlz := alenS_ints hz
    simp only [← alen22] at hlz
    obtain ⟨m1, o1, x1⟩ := make_gen (t := 22) D22 T3 rfl (by decide) rfl (Ext.refl hw) n (by omega)
    obtain ⟨m2, o2, x2⟩ := make_gen (t := 82) D82 T4 rfl (by decide) rfl x1 z.length (by omega)
    have o1' := o1.grow (List.replicate z.length (.bool false))
    have hbb : H.bs.length ≠ (H.new (List.replicate n (AV.int .i64 0))).bs.length := by simp [Hp.new]
    generalize hA : H.new (List.replicate n (AV.int .i64 0)) = HA at *
    generalize hB : HA.new (List.replicate z.length (.bool false)) = HB at *
    generalize hb1 : H.bs.length = b1 at *
    generalize hv1 : H.c = ver1 at *
    generalize hb2 : HA.bs.length = b2 at *
    generalize hv2 : HA.c = ver2 at *
    have hln : alen T 22 (slC b1 ver1 n) = some (.int .i64 n) := by rw [alen22]; rfl
    have hvh := Hide.mk hv
    have ht' := Hide.mk ht
    clear hv
    refine ⟨rfl, go ?_⟩
    unfold c18
    simp only [argSl]
    clear ht o1 x1
    repeat' (first | apply goSeq | apply goReg | apply goSeqN | apply goSeqR | apply goSkip | apply goRet | apply goNil | apply goBlock | apply goExit | apply goBlkN | apply goBlkR | apply goBlkE | apply goSeqE | apply goLoopR | apply goLoopE | (apply goOp; (· (simp [*]; try exact rfl)); (· exact rfl)) | (apply goOp0; (· (simp [*]; try exact rfl)); (· exact rfl)) | (apply goYes; (· (simp [*]; done)); (· (simp [*]; try exact rfl)); (· exact rfl)) | (apply goNo; (· (simp [*]; done))) | (apply goNoU; (· (simp; exact rfl))) | (apply goIfT; (· (simp [*]; done))) | (apply goIfF; (· (simp [*]; done))) | (apply goIf; (· (simp; exact rfl)); (· with_reducible exact rfl)) | (apply goSplit; (· (simp; exact rfl)); (· with_reducible exact rfl)) | (apply goIfQ; (· (simp; exact rfl)); (· exact rfl)) | (apply goSplitQ; (· (simp; exact rfl)); (· exact rfl)) | (apply goBlkX; (· rfl)) | intro _)
    have ht := ht'.out
    have hverH : ver < H.c := by omega
    generalize hFL : (specT l z.length ((n : Int)).toNat a (List.replicate z.length false)).1 = FL at *
    generalize hFA : (specT l z.length ((n : Int)).toNat a (List.replicate z.length false)).2 = FA at *
    rw [Int.toNat_natCast] at hFL hFA
    refine goLoop (fun m s1 H1 => ∃ (i a1 : Nat) (L : List Int) (us : List Bool), m + i = n ∧ a1 ≤ l.length ∧ L.length = n ∧ us.length = z.length ∧ get s1 0 = .ptr b ver 0 ∧ get s1 1 = sz ∧ get s1 7 = slC b1 ver1 n ∧ get s1 8 = slC b2 ver2 z.length ∧ get s1 17 = .int .i64 n ∧ get s1 18 = .int .i64 i ∧ Ext (tapePut H b ver v a1) H1 ∧ OwnC H H1 b1 ver1 (L.map (.int .i64)) ∧ OwnC H H1 b2 ver2 (us.map .bool) ∧ L.take i ++ (specT l z.length m a1 us).1 = FL ∧ (specT l z.length m a1 us).2 = FA) n ?_ ?_
    · have hself : tapePut H b ver v a = H := put_self ht.at'
      exact ⟨0, a, List.replicate n 0, List.replicate z.length false, rfl, ht.le, by simp, by simp, rfl, rfl, rfl, rfl, rfl, rfl, by rw [hself]; exact x2, by simpa using o1', by simpa using o2, by simpa using hFL, hFA⟩
    · clear x2 o1' o2 m1 m2 hlz hln
      rintro m s1 H1 ⟨i, a1, L, us, hmi, ha1, hLn, hus, g1, g2, g3, g4, g5, g6, he, q1, q2, hL, hA'⟩
      simp only [cut_cons, cut_nil, g1, g2, g3, g4, g5, g6]
      clear g1 g2 g3 g4 g5 g6
      have hi0 : (0 : Int) ≤ i := Int.natCast_nonneg i
      cases m with
      | zero =>
        have hin : i = n := by omega
        subst hin
        replace hL := Hide.mk hL
        replace hA' := Hide.mk hA'
        replace q1 := Hide.mk q1
        replace q2 := Hide.mk q2
        repeat' (first | apply goSeq | apply goReg | apply goSeqN | apply goSeqR | apply goSkip | apply goRet | apply goNil | apply goBlock | apply goExit | apply goBlkN | apply goBlkR | apply goBlkE | apply goSeqE | apply goLoopR | apply goLoopE | (apply goOp; (· (simp [*]; try exact rfl)); (· exact rfl)) | (apply goOp0; (· (simp [*]; try exact rfl)); (· exact rfl)) | (apply goYes; (· (simp [*]; done)); (· (simp [*]; try exact rfl)); (· exact rfl)) | (apply goNo; (· (simp [*]; done))) | (apply goNoU; (· (simp; exact rfl))) | (apply goIfT; (· (simp [*]; done))) | (apply goIfF; (· (simp [*]; done))) | (apply goIf; (· (simp; exact rfl)); (· with_reducible exact rfl)) | (apply goSplit; (· (simp; exact rfl)); (· with_reducible exact rfl)) | (apply goIfQ; (· (simp; exact rfl)); (· exact rfl)) | (apply goSplitQ; (· (simp; exact rfl)); (· exact rfl)) | (apply goBlkX; (· rfl)) | intro _)
        refine goEndFt (a' := a1) (v := slC b1 ver1 i) (l := L) hw ht he ?_ (by simp) (by simp [rs18]) rfl ?_
        · have := (q1.out.f)
          rw [hLn] at this
          obtain ⟨x, y, e1, e2, e3⟩ := this
          exact ⟨x, y, e1, e2, e3⟩
        · have h1 := hL.out
          have h2 := hA'.out
          simp only [specT, List.append_nil] at h1 h2
          rw [List.take_of_length_le (by omega)] at h1
          rw [← hvh.out, h1, h2]
      | succ m =>
        have hin : i < n := by omega
        have hlz : alen T 22 sz = some (.int .i64 z.length) := by rw [alen22]; exact alenS_ints hz
        have hi1 : aidx T 22 (slC b1 ver1 n) (.int .i64 i) = some (.ptr b1 ver1 i) := by
          rw [aidx22, idx_gen, if_pos (by omega)]; simp
        obtain ⟨s1a, q1a, hea⟩ := store_gen (t := 3) (x := .int .i64 (-1)) (ht.wf hw) he (q1.old (Nat.le_refl _)) T3 rfl rfl i (by simp; omega)
        have q2a := q2.put (b' := b1) (k := ⟨ver1, (L.map (AV.int .i64)).set i (.int .i64 (-1)), true, true⟩) (fun e => hbb e.symm)
        generalize hHa : H1.put b1 ⟨ver1, (L.map (AV.int .i64)).set i (.int .i64 (-1)), true, true⟩ = Ha at *
        have ta : Tape Ha b ver v l a1 := (ht.put ha1).ext hea.pre
        have ea := F16_at ta 2
        have hw1 : w ((i : Int) + 1) = ((i + 1 : Nat) : Int) := w_id (by omega)
        have hzp : (0 : Int) < (z.length : Int) ↔ 0 < z.length := by omega
        replace hL := Hide.mk hL
        replace hA' := Hide.mk hA'
        replace q1 := Hide.mk q1
        replace q2 := Hide.mk q2
        replace q1a := Hide.mk q1a
        replace q2a := Hide.mk q2a
        replace ta := Hide.mk ta
        replace hz := Hide.mk hz
        have hb0 : Ext (tapePut H b ver v (nextAt l a1 2)) (tapePut Ha b ver v (nextAt l a1 2)) := by
          have := Ext.tape (a' := nextAt l a1 2) (ht.put ha1) hea
          rwa [tape_tape] at this
        have ha2 := nextAt_le (n := 2) ha1
        by_cases hz0 : 0 < z.length
        · obtain ⟨hr1, hr2⟩ := next_range (a' := nextAt l a1 2) ht z.length (by omega)
          have eb := F16_at (ta.out.put ha2) z.length
          rw [tape_tape] at eb
          generalize hk : nextOf l (nextAt l a1 2) z.length = k' at *
          obtain ⟨j, rfl⟩ : ∃ j : Nat, k' = j := ⟨k'.toNat, by omega⟩
          have hjz : j < z.length := by omega
          generalize ha3 : nextAt l (nextAt l a1 2) z.length = a3 at *
          have ha3l : a3 ≤ l.length := by rw [← ha3]; exact nextAt_le ha2
          have hc0 : Ext (tapePut H b ver v a3) (tapePut Ha b ver v a3) := by
            have := Ext.tape (a' := a3) (ht.put ha1) hea
            rwa [tape_tape] at this
          have q2c : OwnC H (tapePut Ha b ver v a3) b2 ver2 (us.map .bool) := OwnC.tape ta.out hverH q2a.out
          have q1c : OwnC H (tapePut Ha b ver v a3) b1 ver1 ((L.map (AV.int .i64)).set i (.int .i64 (-1))) := OwnC.tape ta.out hverH (q1a.out.old (Nat.le_refl _))
          have hi2 : aidx T 82 (slC b2 ver2 z.length) (.int .i64 j) = some (.ptr b2 ver2 j) := by
            rw [aidx82, idx_gen, if_pos (by omega)]; simp
          have hl2 : aload T 4 (.ptr b2 ver2 j) (tapePut Ha b ver v a3) = some (.bool (us.getD j false)) := by
            rw [load_gen q2c T4 trivial j]
            simp [List.getD_eq_getElem?_getD, hus, hjz]
          obtain ⟨s1c, q1d, hd0⟩ := store_gen (t := 3) (x := .int .i64 j) (ht.wf hw) hc0 (q1c.old (Nat.le_refl _)) T3 rfl rfl i (by simp; omega)
          have q2d := q2c.put (b' := b1) (k := ⟨ver1, ((L.map (AV.int .i64)).set i (.int .i64 (-1))).set i (.int .i64 j), true, true⟩) (fun e => hbb e.symm)
          generalize hHd : (tapePut Ha b ver v a3).put b1 ⟨ver1, ((L.map (AV.int .i64)).set i (.int .i64 (-1))).set i (.int .i64 j), true, true⟩ = Hd at *
          obtain ⟨s2d, q2e, he0⟩ := store_gen (t := 4) (x := .bool true) (ht.wf hw) hd0 (q2d.old (Nat.le_refl _)) T4 rfl rfl j (by simp; omega)
          have q1e := q1d.put (b' := b2) (k := ⟨ver2, (us.map AV.bool).set j (.bool true), true, true⟩) hbb
          generalize hHe : Hd.put b2 ⟨ver2, (us.map AV.bool).set j (.bool true), true, true⟩ = He at *
          replace q1c := Hide.mk q1c
          replace q2c := Hide.mk q2c
          replace q1d := Hide.mk q1d
          replace q2d := Hide.mk q2d
          replace q1e := Hide.mk q1e
          replace q2e := Hide.mk q2e
          replace hus := Hide.mk hus
          replace hLn := Hide.mk hLn
          repeat' (first | apply goSeq | apply goReg | apply goSeqN | apply goSeqR | apply goSkip | apply goRet | apply goNil | apply goBlock | apply goExit | apply goBlkN | apply goBlkR | apply goBlkE | apply goSeqE | apply goLoopR | apply goLoopE | (apply goOp; (· (simp [*]; try exact rfl)); (· exact rfl)) | (apply goOp0; (· (simp [*]; try exact rfl)); (· exact rfl)) | (apply goYes; (· (simp [*]; done)); (· (simp [*]; try exact rfl)); (· exact rfl)) | (apply goNo; (· (simp [*]; done))) | (apply goNoU; (· (simp; exact rfl))) | (apply goIfT; (· (simp [*]; done))) | (apply goIfF; (· (simp [*]; done))) | (apply goIf; (· (simp; exact rfl)); (· with_reducible exact rfl)) | (apply goSplit; (· (simp; exact rfl)); (· with_reducible exact rfl)) | (apply goIfQ; (· (simp; exact rfl)); (· exact rfl)) | (apply goSplitQ; (· (simp; exact rfl)); (· exact rfl)) | (apply goBlkX; (· rfl)) | intro _)
          · rename_i hn0' hu
            have hu' : us[j]?.getD false = false := by simpa using hu
            have hLn := hLn.out
            have hus := hus.out
            refine goLoopN m (by omega) ⟨i + 1, a3, L.set i j, us.set j true, by omega, ha3l, by simp [hLn], by simp [hus], rfl, rfl, rfl, rfl, rfl, rfl, he0, ?_, ?_, ?_, ?_⟩
            · have := q1e.out.old (A := H) (Nat.le_refl _)
              simpa [List.map_set] using this
            · have := q2e.out.old (A := H) (Nat.le_refl _)
              simpa [List.map_set] using this
            · rw [take_set1 L i _ (by omega), ← hL.out]; simp [specT, hz0, hn0', hk, ha3, hu', List.append_assoc]
            · rw [← hA'.out]; simp [specT, hz0, hn0', hk, ha3, hu']
          · rename_i hn0' hu
            have hu' : us[j]?.getD false = true := by simpa using hu
            have hLn := hLn.out
            have hus := hus.out
            refine goLoopN m (by omega) ⟨i + 1, a3, L.set i (-1), us, by omega, ha3l, by simp [hLn], hus, rfl, rfl, rfl, rfl, rfl, rfl, hc0, ?_, q2c.out, ?_, ?_⟩
            · have := q1c.out.old (A := H) (Nat.le_refl _)
              simpa [List.map_set] using this
            · rw [take_set1 L i _ (by omega), ← hL.out]; simp [specT, hz0, hn0', hk, ha3, hu', List.append_assoc]
            · rw [← hA'.out]; simp [specT, hz0, hn0', hk, ha3, hu']
          · rename_i hn0'
            have hLn := hLn.out
            have hus := hus.out
            refine goLoopN m (by omega) ⟨i + 1, nextAt l a1 2, L.set i (-1), us, by omega, ha2, by simp [hLn], hus, rfl, rfl, rfl, rfl, rfl, rfl, hb0, ?_, OwnC.tape ta.out hverH q2a.out, ?_, ?_⟩
            · have : OwnC H (tapePut Ha b ver v (nextAt l a1 2)) b1 ver1 ((L.map (AV.int .i64)).set i (.int .i64 (-1))) := OwnC.tape ta.out hverH (q1a.out.old (Nat.le_refl _))
              simpa [List.map_set] using this
            · rw [take_set1 L i _ (by omega), ← hL.out]; simp [specT, hz0, hn0', List.append_assoc]
            · rw [← hA'.out]; simp [specT, hz0, hn0']
        · repeat' (first | apply goSeq | apply goReg | apply goSeqN | apply goSeqR | apply goSkip | apply goRet | apply goNil | apply goBlock | apply goExit | apply goBlkN | apply goBlkR | apply goBlkE | apply goSeqE | apply goLoopR | apply goLoopE | (apply goOp; (· (simp [*]; try exact rfl)); (· exact rfl)) | (apply goOp0; (· (simp [*]; try exact rfl)); (· exact rfl)) | (apply goYes; (· (simp [*]; done)); (· (simp [*]; try exact rfl)); (· exact rfl)) | (apply goNo; (· (simp [*]; done))) | (apply goNoU; (· (simp; exact rfl))) | (apply goIfT; (· (simp [*]; done))) | (apply goIfF; (· (simp [*]; done))) | (apply goIf; (· (simp; exact rfl)); (· with_reducible exact rfl)) | (apply goSplit; (· (simp; exact rfl)); (· with_reducible exact rfl)) | (apply goIfQ; (· (simp; exact rfl)); (· exact rfl)) | (apply goSplitQ; (· (simp; exact rfl)); (· exact rfl)) | (apply goBlkX; (· rfl)) | intro _)
          refine goLoopN m (by omega) ⟨i + 1, a1, L.set i (-1), us, by omega, ha1, by simp [hLn], hus, rfl, rfl, rfl, rfl, rfl, rfl, hea, ?_, q2a.out, ?_, ?_⟩
          · have := q1a.out.old (A := H) (Nat.le_refl _)
            simpa [List.map_set] using this
          · rw [take_set1 L i _ (by omega), ← hL.out]; simp [specT, hz0]
          · rw [← hA'.out]; simp [specT, hz0]
  · cases hv
end Go.Proofs.Ytokadkakmhfdeaa.Pq
