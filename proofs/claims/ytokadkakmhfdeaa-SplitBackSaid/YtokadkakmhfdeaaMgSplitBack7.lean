/- What the proof of a statement of this seat rests on, part 7: PqWW, PqWX, PqXA, PqWY. -/
import Derived.Test.YtokadkakmhfdeaaMgSplitBack6
set_option linter.unusedVariables false
set_option linter.unusedSimpArgs false
set_option linter.unusedSectionVars false
namespace Go.Proofs.Ytokadkakmhfdeaa.Pq
open Go.RowKit
/- Walks: a tensor, a mesh and a spec of a tape. -/
theorem Fresh.perm {c d : Nat} {a b : List (Nat × Nat)} (h : Fresh c d a) (p : a.Perm b) : Fresh c d b := ⟨p.nodup_iff.1 h.1, fun q hq => h.2 q (p.mem_iff.2 hq)⟩
def seven : List (List Int) := [[2], [2, 4], [3, 2], [2, 2, 2], [], [5], [2, 2]]
theorem litH_rep : ∀ (L : List (List Int)) {H : Hp}, Wf H → ∀ k : Nat, k < L.length → ∃ m b ver, (litH H L).1[k]? = some (.sl b ver 0 m.length 1 true) ∧ L[k]? = some m ∧ (litH H L).2.at b ver = some ⟨ver, m.map (.int .i64), true, true⟩ ∧ H.bs.length ≤ b ∧ H.c ≤ ver ∧ ver < (litH H L).2.c := by
  intro L
  induction L with
  | nil => intro H _ k hk; simp at hk
  | cons l L ih =>
    intro H hw k hk
    cases k with
    | zero =>
      refine ⟨l, _, _, rfl, rfl, (litH_ext L (hw.new _)).pre.at (new_at _ _), Nat.le_refl _, Nat.le_refl _, ?_⟩
      have := (litH_ext L (hw.new (l.map (.int .i64)))).c
      rw [new_c] at this
      show H.c < (litH _ L).2.c
      omega
    | succ k =>
      obtain ⟨m, b, ver, h1, h2, h3, h4, h5, h6⟩ := ih (hw.new (l.map (.int .i64))) k (by simpa using hk)
      rw [new_len] at h4
      rw [new_c] at h5
      exact ⟨m, b, ver, by simpa [litH] using h1, by simpa using h2, h3, by omega, by omega, h6⟩
theorem xdo_bs26_g7 {E : Env} {sh : Bool} {s : Sl} {H : Hp} (x0 x1 x2 x3 x4 x5 x6 : Operand) {v0 v1 v2 v3 v4 v5 v6 : AV} (h0 : ev s x0 = v0) (h1 : ev s x1 = v1) (h2 : ev s x2 = v2) (h3 : ev s x3 = v3) (h4 : ev s x4 = v4) (h5 : ev s x5 = v5) (h6 : ev s x6 = v6)
    (g : [v0, v1, v2, v3, v4, v5, v6].all (fun v => match v with | .sl .. => true | _ => false) = true) :
    xdo E T sh (.buildSlice 26 7 #[(0, x0), (1, x1), (2, x2), (3, x3), (4, x4), (5, x5), (6, x6)]) s H = some (.sl H.bs.length H.c 0 7 1 true, H.new [v0, v1, v2, v3, v4, v5, v6]) := by
  simp only [List.all_cons, List.all_nil, Bool.and_true, Bool.and_eq_true] at g
  obtain ⟨g0, g1, g2, g3, g4, g5, g6⟩ := g
  cases v0 <;> first | cases g0 | skip
  cases v1 <;> first | cases g1 | skip
  cases v2 <;> first | cases g2 | skip
  cases v3 <;> first | cases g3 | skip
  cases v4 <;> first | cases g4 | skip
  cases v5 <;> first | cases g5 | skip
  cases v6 <;> first | cases g6 | skip
  simp [xdo, aop, D26, T22, rep, afill, setAll, AV.cells, AV.one, h0, h1, h2, h3, h4, h5, h6]
theorem goLits7 {E : Env} {s : Sl} {H : Hp} {k : Ct} {l : List Co}
    (h : ∀ (v0 v1 v2 v3 v4 v5 v6 : AV) (HL : Hp), litH H seven = ([v0, v1, v2, v3, v4, v5, v6], HL) →
      YL E T false l ((18, .sl HL.bs.length HL.c 0 7 1 true) :: (17, v6) :: (16, v5) :: (15, v4) :: (14, v3) :: (13, v2) :: (12, v1) :: (11, v0) :: s) (HL.new [v0, v1, v2, v3, v4, v5, v6]) k) :
    YL E T false (⟨some 11, (Op.buildSlice 22 1 #[(0, (Operand.const (Value.int IntKind.i64 2)))]), none⟩ ::
    ⟨some 12, (Op.buildSlice 22 2 #[(0, (Operand.const (Value.int IntKind.i64 2))), (1, (Operand.const (Value.int IntKind.i64 4)))]), none⟩ ::
    ⟨some 13, (Op.buildSlice 22 2 #[(0, (Operand.const (Value.int IntKind.i64 3))), (1, (Operand.const (Value.int IntKind.i64 2)))]), none⟩ ::
    ⟨some 14, (Op.buildSlice 22 3 #[(0, (Operand.const (Value.int IntKind.i64 2))), (1, (Operand.const (Value.int IntKind.i64 2))), (2, (Operand.const (Value.int IntKind.i64 2)))]), none⟩ ::
    ⟨some 15, (Op.buildSlice 22 0 #[]), none⟩ ::
    ⟨some 16, (Op.buildSlice 22 1 #[(0, (Operand.const (Value.int IntKind.i64 5)))]), none⟩ ::
    ⟨some 17, (Op.buildSlice 22 2 #[(0, (Operand.const (Value.int IntKind.i64 2))), (1, (Operand.const (Value.int IntKind.i64 2)))]), none⟩ ::
    ⟨some 18, (Op.buildSlice 26 7 #[(0, (Operand.tmp 11)), (1, (Operand.tmp 12)), (2, (Operand.tmp 13)), (3, (Operand.tmp 14)), (4, (Operand.tmp 15)), (5, (Operand.tmp 16)), (6, (Operand.tmp 17))]), none⟩ :: l) s H k := by
  refine goOp (xdo_bs22_1 2) rfl ?_
  refine goOp (xdo_bs22_2 2 4) rfl ?_
  refine goOp (xdo_bs22_2 3 2) rfl ?_
  refine goOp (xdo_bs22_3 2 2 2) rfl ?_
  refine goOp xdo_bs22_0 rfl ?_
  refine goOp (xdo_bs22_1 5) rfl ?_
  refine goOp (xdo_bs22_2 2 2) rfl ?_
  refine goOp (xdo_bs26_g7 _ _ _ _ _ _ _ rfl rfl rfl rfl rfl rfl rfl rfl) rfl ?_
  exact h _ _ _ _ _ _ _ _ rfl
/-! ### what it comes to -/
def mdM (l : List Int) : List Int := seven.getD (nextOf l 0 7).toNat []
def mdS (l : List Int) : List Int × Nat := shapeT l (nextOf l (nextAt l 0 7) 4).toNat (nextAt l (nextAt l 0 7) 4)
def mdD (l : List Int) : List Int × Nat := dataT l (sizeOf (mdS l).1).toNat (mdS l).2
def mdP (l : List Int) : List Int × Nat := specT l (mdM l).length (mdS l).1.length (mdD l).2 (List.replicate (mdM l).length false)
def madeTr (l : List Int) : Tr := .tup [.agg [trC (mdS l).1, trS (mdD l).1], trF (mdM l), trF (mdP l).1]
theorem seven_len : ∀ m ∈ seven, m.length ≤ 3 := by decide
open Classical in
noncomputable def F31 (args : List AV) (H : Hp) : Option (AV × Hp) := match args with
  | [v] => (ints H v).bind fun l => if In64 l then some (mk (madeTr l) H) else none
  | _ => none
theorem rep_tup3 {c : Nat} {H : Hp} {a b d : Tr} {x y z : AV} {b1 b2 b3 : List (Nat × Nat)} (h1 : Rep c H a x b1) (h2 : Rep c H b y b2) (h3 : Rep c H d z b3) : Rep c H (.tup [a, b, d]) (.tup [x, y, z]) (b1 ++ (b2 ++ b3)) := by
  simp only [Rep, Reps]
  exact ⟨_, rfl, x, _, b1, b2 ++ b3, rfl, h1, ⟨y, _, b2, b3, rfl, h2, ⟨z, _, b3, [], rfl, h3, ⟨rfl, rfl⟩, by simp⟩, rfl⟩, rfl⟩
set_option maxHeartbeats 4000000 in
theorem snd31 : Sound Try.prog 31 (FSem.eff F31).run := by
  refine sound_of hT (EOK_cons snd16 (EOK_cons snd17 (EOK_cons snd18 (EOK_cons snd80 (EOK_nil _))))) mixed A31 Try.func31 hb31 (by kernel_rfl) (by kernel_rfl) (by kernel_rfl) (by kernel_rfl) sh31 1 (by kernel_rfl) rs31 hr31 ?_
  intro args H r H' hw h
  have hv : F31 args H = some (r, H') := h
  clear h
  unfold F31 at hv
  split at hv
  · rename_i v
    obtain ⟨l, hl, hv⟩ := Option.bind_eq_some_iff.1 hv
    split at hv
    rotate_left
    · cases hv
    rename_i hr
    have hvv := Hide.mk (Option.some.inj hv)
    clear hv
    have x0 : Ext H (H.new [.nilS, .nilS]) := (Ext.refl hw).new _
    have c0 : OwnC H (H.new [.nilS, .nilS]) H.bs.length H.c [.nilS, .nilS] := ⟨Nat.le_refl _, new_at _ _⟩
    have hq0lt : H.c < (H.new [AV.nilS, AV.nilS]).c := Nat.lt_succ_self _
    generalize hH0 : H.new [.nilS, .nilS] = H0 at *
    generalize hp0 : H.bs.length = p0 at *
    generalize hq0 : H.c = q0 at *
    have hl0 := ints_ext x0.pre hl
    obtain ⟨hv1, hv2, hvo⟩ := ints_cell hl0
    have ht0 : Tape (H0.new [v, .int .i64 0]) H0.bs.length H0.c v l 0 := ⟨new_at _ _, ints_ext (Pre.new (Pre.refl _) _) hl0, hvo, Nat.zero_le _, hr⟩
    have hE0 : Ext H0 (H0.new [v, .int .i64 0]) := (Ext.refl x0.wf).new _
    have hbx : abox (.agg [v, .int .i64 0]) H0 = some (.ptr H0.bs.length H0.c 0, H0.new [v, .int .i64 0]) := by
      unfold abox; rw [if_pos (by simp [AV.cells, hv2]; rfl)]; rfl
    refine ⟨rfl, go ?_⟩
    unfold c31
    simp only [argSl]
    refine goSeq (goReg ?_)
    iterate 3 (apply goOp; (· (simp [hH0, hp0, hq0]; try exact rfl)); (· exact rfl))
    refine goNil (goSeqN (goSeq (goReg ?_)))
    iterate 4 (apply goOp; (· (simp [hv1, hbx]; try exact rfl)); (· exact rfl))
    refine goNil (goSeqN (goSeq (goReg ?_)))
    have hlt : H0.bs.length < (H0.new [v, .int .i64 0]).bs.length := by rw [new_len]; omega
    have hbl : H0.bs.length ≤ H0.bs.length := Nat.le_refl _
    have hver1 : H0.c < (H0.new [v, .int .i64 0]).c := by rw [new_c]; omega
    have hvH : H0.c ≤ H0.c := Nat.le_refl _
    generalize H0.new [v, .int .i64 0] = H1 at *
    generalize hb : H0.bs.length = b at hbl hlt ht0 hvo ⊢
    generalize hver0 : H0.c = ver at ht0 hver1 hvH hq0lt ⊢
    clear hbx hv1 hv2 hvo
    refine goLits7 fun v0 v1 v2 v3 v4 v5 v6 HL hL => ?_
    have hE1 : Ext H1 HL := by have := litH_ext seven hE0.wf; rwa [hL] at this
    obtain ⟨hk0, hk1⟩ := next_in hr 0 7 (by omega)
    obtain ⟨k, hk⟩ : ∃ k : Nat, nextOf l 0 7 = k := ⟨(nextOf l 0 7).toNat, by omega⟩
    obtain ⟨m, mb, mv, hsz, hm, hmat, hmb, hmv, hmv2⟩ := litH_rep seven hE0.wf k (by simp [seven]; omega)
    rw [hL] at hsz hmat hmv2
    have hmem : m ∈ seven := List.mem_of_getElem? hm
    have hM : mdM l = m := by simp only [mdM, hk, Int.toNat_natCast, List.getD_eq_getElem?_getD, hm, Option.getD_some]
    have hml := seven_len m hmem
    have hvs : HL.bs.length ≠ b := by have := Pre.le hE1.pre; omega
    have ht1 : Tape (HL.new [v0, v1, v2, v3, v4, v5, v6]) b ver v l 0 := ht0.ext (hE1.new _).pre
    have hE2 : Ext H0 (HL.new [v0, v1, v2, v3, v4, v5, v6]) := hE0.trans (hE1.new _)
    have hm1 : (HL.new [v0, v1, v2, v3, v4, v5, v6]).at mb mv = some ⟨mv, m.map (.int .i64), true, true⟩ := at_new hmat _
    have e16 := F16_at ht1 7
    have hix : aidx T 26 (.sl HL.bs.length HL.c 0 7 1 true) (.int .i64 k) = some (.ptr HL.bs.length HL.c k) := by
      rw [aidx26]; simp only [aidxS]; rw [if_pos ⟨trivial, by omega, by omega⟩]; simp
    have hld : aload T 22 (.ptr HL.bs.length HL.c k) (tapePut (HL.new [v0, v1, v2, v3, v4, v5, v6]) b ver v (nextAt l 0 7)) = some (.sl mb mv 0 m.length 1 true) := by
      have := at_put (H := HL.new [v0, v1, v2, v3, v4, v5, v6]) (ver := HL.c) (k := ⟨ver, [v, .int .i64 (nextAt l 0 7)], true, true⟩) hvs
      simp only [aload, T22, tapePut, this, new_at]
      exact hsz
    rw [hk] at e16
    have hmver : mv ≠ ver := by omega
    have hm2 := Keeps.tape (a' := nextAt l 0 7) ht1 hmver _ hm1
    have ht2 : Tape (tapePut (HL.new [v0, v1, v2, v3, v4, v5, v6]) b ver v (nextAt l 0 7)) b ver v l (nextAt l 0 7) := ht1.put (nextAt_le (Nat.zero_le _))
    have hE3 : Ext H0 (tapePut (HL.new [v0, v1, v2, v3, v4, v5, v6]) b ver v (nextAt l 0 7)) := hE2.tapeN (by omega) ht1
    have hver2 : mv < (tapePut (HL.new [v0, v1, v2, v3, v4, v5, v6]) b ver v (nextAt l 0 7)).c := by
      show mv < HL.c + 1
      have : mv < HL.c := hmv2
      omega
    replace hm1 := Hide.mk hm1
    replace hm2 := Hide.mk hm2
    replace ht1 := Hide.mk ht1
    replace ht2 := Hide.mk ht2
    replace hE2 := Hide.mk hE2
    replace hE3 := Hide.mk hE3
    replace hmem := Hide.mk hmem
    replace hver2 := Hide.mk hver2
    replace hr := Hide.mk hr
    replace x0 := Hide.mk x0
    replace c0 := Hide.mk c0
    replace hM := Hide.mk hM
    replace hmat := Hide.mk hmat
    clear hE0 hE1 ht0 hL hm hsz hl0 hH0 hp0
    repeat' (first | apply goSeq | apply goReg | apply goSeqN | apply goSeqR | apply goSkip | apply goRet | apply goNil | apply goBlock | apply goExit | apply goBlkN | apply goBlkR | apply goBlkE | apply goSeqE | apply goLoopR | apply goLoopE | (apply goOp; (· (simp [*]; try exact rfl)); (· exact rfl)) | (apply goOp0; (· (simp [*]; try exact rfl)); (· exact rfl)) | (apply goYes; (· (simp [*]; done)); (· (simp [*]; try exact rfl)); (· exact rfl)) | (apply goNo; (· (simp [*]; done))) | (apply goNoU; (· (simp; exact rfl))) | (apply goIfT; (· (simp [*]; done))) | (apply goIfF; (· (simp [*]; done))) | (apply goIf; (· (simp; exact rfl)); (· with_reducible exact rfl)) | (apply goSplit; (· (simp; exact rfl)); (· with_reducible exact rfl)) | (apply goIfQ; (· (simp; exact rfl)); (· exact rfl)) | (apply goSplitQ; (· (simp; exact rfl)); (· exact rfl)) | (apply goBlkX; (· rfl)) | intro _)
    have hmv2 : mv < HL.c := hmv2
    have hr := hr.out
    have hm2 := hm2.out
    have hver2 := hver2.out
    clear hv
    have hverG : ver < (tapePut (HL.new [v0, v1, v2, v3, v4, v5, v6]) b ver v (nextAt l 0 7)).c := by omega
    generalize hH2 : tapePut (HL.new [v0, v1, v2, v3, v4, v5, v6]) b ver v (nextAt l 0 7) = H2 at hm2 ht2 hE3 hver2 hverG ⊢
    clear hH2 hld hix e16 ht1 hE2 hm1 hmat
    -- the shape
    obtain ⟨hn0, hn3⟩ := next_in hr (nextAt l 0 7) 4 (by omega)
    have e17 : F17 [.ptr b ver 0] H2 = some (mkS (tapePut H2 b ver v (mdS l).2) (mdS l).1) := by
      simp only [F17]; exact tapeF_at ht2.out
    have h3 : (mdS l).1.length = (nextOf l (nextAt l 0 7) 4).toNat := shapeT_len l (nextOf l (nextAt l 0 7) 4).toNat (nextAt l (nextAt l 0 7) 4)
    have hA : (mdS l).2 ≤ l.length := shapeT_le l (nextOf l (nextAt l 0 7) 4).toNat (nextAt l (nextAt l 0 7) 4) (nextAt_le (nextAt_le (Nat.zero_le _)))
    replace h3 : (mdS l).1.length ≤ 3 := by omega
    have hmd : mdD l = dataT l (sizeOf (mdS l).1).toNat (mdS l).2 := rfl
    have hmp : mdP l = specT l (mdM l).length (mdS l).1.length (mdD l).2 (List.replicate (mdM l).length false) := rfl
    have hmt : madeTr l = .tup [.agg [trC (mdS l).1, trS (mdD l).1], trF (mdM l), trF (mdP l).1] := rfl
    rw [hM.out] at hmp hmt
    generalize mdS l = SA at *
    obtain ⟨S, A2⟩ := SA
    simp only at e17 h3 hA hmd hmp hmt
    have tw := ht2.out.wf (a' := A2) hE3.out.wf
    have ht3 := (ht2.out.put hA).ext (mkS_ext tw S).pre
    have hE4 := (hE3.out.tapeN (a' := A2) (by omega) ht2.out).trans (mkS_ext tw S)
    have ho3 := mkS_own (tapePut H2 b ver v A2) S
    have his3 := ints_of_own ho3 (by omega)
    have hm3 := (mkS_ext tw S).pre.at (Keeps.tape (a' := A2) ht2.out hmver _ hm2)
    have hc3 : H2.c ≤ (mkS (tapePut H2 b ver v A2) S).2.c := (mkS_ext tw S).c
    generalize hr3 : mkS (tapePut H2 b ver v A2) S = r3 at *
    obtain ⟨sv, H3⟩ := r3
    simp only at ht3 hE4 ho3 his3 hm3 hc3
    -- the tensor
    have hsz := sizeOf_le S
    have e80 : F80 [.ptr b ver 0, sv] H3 = some (mk (.agg [trC S, trS (mdD l).1]) (tapePut H3 b ver v (mdD l).2)) := by
      show (ints H3 sv).bind _ = _
      rw [his3, Option.bind_some, if_pos (by omega), hmd]
      exact tapeF_at ht3
    have hDl : (mdD l).1.length ≤ 4096 := by rw [hmd, dataT_len]; omega
    have hA3 : (mdD l).2 ≤ l.length := by rw [hmd]; exact dataT_le _ _ hA
    generalize mdD l = DA at *
    obtain ⟨D, A3⟩ := DA
    simp only at e80 hDl hA3 hmp hmt
    have tw3 := ht3.wf (a' := A3) hE4.wf
    obtain ⟨bs, r1, f1, x1, t1⟩ := mk_tens (H := tapePut H3 b ver v A3) tw3 (a := trC S) (b := trS D) (s := S) (d := D) (.inr (.inr rfl)) (.inl rfl) (by omega) (by omega)
    have ht4 := (ht3.put hA3).ext x1.pre
    have hE5 := (hE4.tapeN (a' := A3) (by omega) ht3).trans x1
    have hm4 := x1.pre.at (Keeps.tape (a' := A3) ht3 hmver _ hm3)
    have hc4 : H3.c ≤ (mk (.agg [trC S, trS D]) (tapePut H3 b ver v A3)).2.c := x1.c
    replace f1 : Fresh H3.c (mk (.agg [trC S, trS D]) (tapePut H3 b ver v A3)).2.c bs := f1
    replace r1 : Rep H3.c (mk (.agg [trC S, trS D]) (tapePut H3 b ver v A3)).2 (.agg [trC S, trS D]) (mk (.agg [trC S, trS D]) (tapePut H3 b ver v A3)).1 bs := r1
    generalize hr4 : mk (.agg [trC S, trS D]) (tapePut H3 b ver v A3) = r4 at *
    obtain ⟨tv, H4⟩ := r4
    simp only at ht4 hE5 hm4 hc4 f1 r1 t1
    obtain ⟨shv, dav, b1, b2, rfl, rs1, rd1, rfl⟩ := rep_agg2.1 r1
    obtain ⟨_, _, hag, hsi, hdi⟩ := tens_some t1
    cases hag
    have hone := ints_one' hsi
    have hone2 := ints_one' hdi
    -- its cell
    have a5 := new_at H4 [.nilS, .nilS]
    have x5 : Ext H4 (H4.new [.nilS, .nilS]) := (Ext.refl hE5.wf).new _
    have st5 := st40 (x := shv) (y := dav) a5 hone hone2
    have hc5 : H4.c < (H4.new [AV.nilS, AV.nilS]).c := Nat.lt_succ_self _
    have x6 : Ext H4 ((H4.new [.nilS, .nilS]).put H4.bs.length ⟨H4.c, [shv, dav], true, true⟩) := put_ext hE5.wf x5 (Nat.le_refl _) a5
    have a6 : ((H4.new [.nilS, .nilS]).put H4.bs.length ⟨H4.c, [shv, dav], true, true⟩).at H4.bs.length H4.c = some ⟨H4.c, [shv, dav], true, true⟩ := at_put_same a5 rfl
    have hc6 : ((H4.new [AV.nilS, AV.nilS]).put H4.bs.length ⟨H4.c, [shv, dav], true, true⟩).c = (H4.new [AV.nilS, AV.nilS]).c := rfl
    generalize hH5 : H4.new [.nilS, .nilS] = H5 at *
    generalize hp5 : H4.bs.length = p5 at *
    generalize hH6 : H5.put p5 ⟨H4.c, [shv, dav], true, true⟩ = H6 at *
    have hE6 := hE5.trans x6
    have ht6 := ht4.ext x6.pre
    have hm6 := x6.pre.at hm4
    have rs6 := Rep.ext x6.pre rs1
    have rd6 := Rep.ext x6.pre rd1
    have hsi6 := ints_ext x6.pre hsi
    have l40 := ld40 a6
    have l22 := ld22 a6 0
    simp only [List.getElem?_cons_zero] at l22
    have hlS := alenS_ints hsi6
    simp only [← alen22] at hlS
    have him6 : ints H6 (.sl mb mv 0 m.length 1 true) = some m := ints_of_ownF (H0 := ⟨[], 0⟩) ⟨mb, mv, rfl, Nat.zero_le _, hm6⟩ (by omega)
    have hmof : off (.sl mb mv 0 m.length 1 true) b = true := by
      have : mb ≠ b := by omega
      simpa [off] using this
    -- the spec
    have e18 : F18 [.ptr b ver 0, .sl mb mv 0 m.length 1 true, .int .i64 S.length] H6 = some (mkF (tapePut H6 b ver v (mdP l).2) (mdP l).1) := by
      rw [F18_at ht6 him6 (by omega) (by omega) hmof, hmp]
    have hPl : (mdP l).1.length ≤ 3 := by rw [hmp, specT_len]; exact h3
    generalize mdP l = PA at *
    obtain ⟨P, A4⟩ := PA
    simp only at e18 hPl hmt
    have tw6 := ht6.wf (a' := A4) hE6.wf
    have ho7 := mkF_own (tapePut H6 b ver v A4) P
    have hx7 := mkF_ext tw6 P
    have hk7 : ∀ b' ver', ver' ≠ ver → Keeps H6 (mkF (tapePut H6 b ver v A4) P).2 b' ver' := fun b' ver' h => (Keeps.tape ht6 h).trans (Keeps.pre hx7.pre b' ver')
    have hE7 := (hE6.tapeN (a' := A4) (by omega) ht6).trans hx7
    have hc7 : H6.c < (mkF (tapePut H6 b ver v A4) P).2.c := Nat.lt_succ_self _
    generalize hr7 : mkF (tapePut H6 b ver v A4) P = r7 at *
    obtain ⟨pv, H7⟩ := r7
    simp only at ho7 hk7 hE7 hc7
    obtain ⟨b7, r7, f7⟩ := OwnF.repF hE7.wf ho7
    have a7 := hk7 p5 H4.c (by omega) _ a6
    have l40b := ld40 a7
    have c7 : OwnC H H7 p0 q0 [.nilS, .nilS] := (c0.out.ext hE7.pre)
    have st8 := st40 (x := shv) (y := dav) c7.at' hone hone2
    have hk8 : ∀ b' ver', ver' ≠ q0 → Keeps H7 (H7.put p0 ⟨q0, [shv, dav], true, true⟩) b' ver' := fun b' ver' h => Keeps.put c7.at' h
    have lr := ld40 (at_put_same (k' := ⟨q0, [shv, dav], true, true⟩) c7.at' rfl)
    have hx8 := put_ext (cs := [shv, dav]) hw (x0.out.trans hE7) (by omega) c7.at'
    replace f7 : Fresh H6.c H7.c b7 := f7
    replace r7 : Rep H6.c H7 (trF P) pv b7 := r7
    clear ht2 hE3 ht3 hE4 ho3 his3 hm3 tw tw3 x1 ht4 hE5 hm4 r1 t1 rs1 rd1 hsi hdi a5 x5 x6 hE6 ht6 hsi6 him6 hmof tw6 ho7 hx7 hE7 c7 hn0 hn3 hk0 hk1 hk hH6
    replace f1 := Hide.mk f1
    replace f7 := Hide.mk f7
    replace r7 := Hide.mk r7
    replace rs6 := Hide.mk rs6
    replace rd6 := Hide.mk rd6
    replace hm6 := Hide.mk hm6
    replace hk7 := Hide.mk hk7
    replace hk8 := Hide.mk hk8
    replace hx8 := Hide.mk hx8
    replace hmt := Hide.mk hmt
    repeat' (first | apply goSeq | apply goReg | apply goSeqN | apply goSeqR | apply goSkip | apply goRet | apply goNil | apply goBlock | apply goExit | apply goBlkN | apply goBlkR | apply goBlkE | apply goSeqE | apply goLoopR | apply goLoopE | (apply goOp; (· (simp [*]; try exact rfl)); (· exact rfl)) | (apply goOp0; (· (simp [*]; try exact rfl)); (· exact rfl)) | (apply goYes; (· (simp [*]; done)); (· (simp [*]; try exact rfl)); (· exact rfl)) | (apply goNo; (· (simp [*]; done))) | (apply goNoU; (· (simp; exact rfl))) | (apply goIfT; (· (simp [*]; done))) | (apply goIfF; (· (simp [*]; done))) | (apply goIf; (· (simp; exact rfl)); (· with_reducible exact rfl)) | (apply goSplit; (· (simp; exact rfl)); (· with_reducible exact rfl)) | (apply goIfQ; (· (simp; exact rfl)); (· exact rfl)) | (apply goSplitQ; (· (simp; exact rfl)); (· exact rfl)) | (apply goBlkX; (· rfl)) | intro _)
    apply goDrw
    iterate 8 (apply goTOp; (· (simp [*]; try exact rfl)); (· exact rfl))
    apply goTOp0; (· (simp [*]; try exact rfl)); (· exact rfl)
    iterate 2 (apply goTOp; (· (simp [*]; try exact rfl)); (· exact rfl))
    refine goTNil (by simp [again, XG_none, get, l40, l40b]) ?_
    repeat' (first | apply goSeq | apply goReg | apply goSeqN | apply goSeqR | apply goSkip | apply goRet | apply goNil | apply goBlock | apply goExit | apply goBlkN | apply goBlkR | apply goBlkE | apply goSeqE | apply goLoopR | apply goLoopE | (apply goOp; (· (simp [*]; try exact rfl)); (· exact rfl)) | (apply goOp0; (· (simp [*]; try exact rfl)); (· exact rfl)) | (apply goYes; (· (simp [*]; done)); (· (simp [*]; try exact rfl)); (· exact rfl)) | (apply goNo; (· (simp [*]; done))) | (apply goNoU; (· (simp; exact rfl))) | (apply goIfT; (· (simp [*]; done))) | (apply goIfF; (· (simp [*]; done))) | (apply goIf; (· (simp; exact rfl)); (· with_reducible exact rfl)) | (apply goSplit; (· (simp; exact rfl)); (· with_reducible exact rfl)) | (apply goIfQ; (· (simp; exact rfl)); (· exact rfl)) | (apply goSplitQ; (· (simp; exact rfl)); (· exact rfl)) | (apply goBlkX; (· rfl)) | intro _)
    have hf1 := f1.out
    have hf7 := f7.out
    have hk12 : ∀ p ∈ b1 ++ b2, p.2 ≠ ver ∧ p.2 ≠ q0 := fun p hp => by have := (hf1.2 p hp).1; omega
    have hk77 : ∀ p ∈ b7, p.2 ≠ q0 := fun p hp => by have := (hf7.2 p hp).1; omega
    have hkk : ∀ b' ver', ver' ≠ ver → ver' ≠ q0 → Keeps H6 (H7.put p0 ⟨q0, [shv, dav], true, true⟩) b' ver' := fun b' ver' h1 h2 => (hk7.out b' ver' h1).trans (hk8.out b' ver' h2)
    have hm8 : Rep H.c (H7.put p0 ⟨q0, [shv, dav], true, true⟩) (trF m) (.sl mb mv 0 m.length 1 true) [(mb, mv)] := rep_F.2 ⟨mb, mv, rfl, by omega, hkk mb mv hmver (by omega) _ hm6.out, rfl⟩
    have ht8 : Rep H.c (H7.put p0 ⟨q0, [shv, dav], true, true⟩) (.agg [trC S, trS D]) (.agg [shv, dav]) (b1 ++ b2) :=
      rep_agg2.2 ⟨shv, dav, b1, b2, rfl, rep_down _ (c0 := 0) (okT_C 0 S) (Nat.zero_le _) (by omega) (Rep.keep (trC S) (fun p hp => hkk p.1 p.2 (hk12 p (by simp [hp])).1 (hk12 p (by simp [hp])).2) rs6.out), rep_down _ (c0 := 0) (okT_S 0 D) (Nat.zero_le _) (by omega) (Rep.keep (trS D) (fun p hp => hkk p.1 p.2 (hk12 p (by simp [hp])).1 (hk12 p (by simp [hp])).2) rd6.out), rfl⟩
    have hp8 : Rep H.c (H7.put p0 ⟨q0, [shv, dav], true, true⟩) (trF P) pv b7 := rep_down _ (c0 := 0) (okT_F 0 P) (Nat.zero_le _) (by omega) (Rep.keep (trF P) (fun p hp => hk8.out p.1 p.2 (hk77 p hp)) r7.out)
    have hall : Fresh H.c H7.c ((b1 ++ b2) ++ ([(mb, mv)] ++ b7)) := by
      have g1 : Fresh H.c H2.c [(mb, mv)] := Fresh.one (by omega) hver2
      have g2 := g1.app (hf1.wide hc3 (Nat.le_refl _)) (by omega) (by omega)
      have g3 := g2.app (hf7.wide (by omega : H4.c ≤ H6.c) (Nat.le_refl _)) (by omega) (by omega)
      refine g3.perm ?_
      rw [← List.append_assoc (b1 ++ b2)]
      exact List.Perm.append_right b7 List.perm_append_comm
    exact goEndR (vs := [.agg [shv, dav], .sl mb mv 0 m.length 1 true, pv]) (bs := (b1 ++ b2) ++ ([(mb, mv)] ++ b7)) (d := H7.c) (t := .tup [.agg [trC S, trS D], trF m, trF P]) hw hx8.out.pre (rep_tup3 ht8 hm8 hp8) hall (by simp) (by simp [rs31, lr]) rfl (hmt.out ▸ hvv.out)
  · cases hv
/- Walks: some of chapter 17's runs. -/
section
variable {E : Env} {s : Sl} {H : Hp} {k : Ct} {l : List Co}
theorem lit_new (hw : Wf H) (m : List Int) (hm : m.length ≤ 1152921504606846976) : Ext H (H.new (m.map (.int .i64))) ∧ ints (H.new (m.map (.int .i64))) (.sl H.bs.length H.c 0 m.length 1 true) = some m :=
  ⟨(Ext.refl hw).new _, ints_of_ownF (H0 := H) ⟨_, _, rfl, Nat.le_refl _, new_at _ _⟩ hm⟩
/-- A list of one number that stands in the text. -/
theorem goLit1 {d : Nat} {a : Int} (hw : Wf H) (h : ∀ v A, Ext H A → ints A v = some [a] → notMt v = true → YL E T false l ((d, v) :: s) A k) : YL E T false (⟨some d, .buildSlice 22 1 #[(0, .const (.int .i64 a))], none⟩ :: l) s H k := by
  obtain ⟨h1, h2⟩ := lit_new hw [a] (by simp)
  exact goOp (xdo_bs22_1 a) rfl (h _ _ h1 h2 rfl)
theorem xdo_bs38_3 {sh : Bool} (a b c : Int) : xdo E T sh (.buildSlice 38 3 #[(0, .const (.int .i64 a)), (1, .const (.int .i64 b)), (2, .const (.int .i64 c))]) s H = some (.sl H.bs.length H.c 0 3 1 true, H.new ([a, b, c].map (.int .i64))) := by
  simp [xdo, aop, D38, T2, rep, afill, setAll, AV.cells, AV.one]
theorem goLit3 {d : Nat} {a b c : Int} (hw : Wf H) (h : ∀ v A, Ext H A → ints A v = some [a, b, c] → notMt v = true → YL E T false l ((d, v) :: s) A k) : YL E T false (⟨some d, .buildSlice 38 3 #[(0, .const (.int .i64 a)), (1, .const (.int .i64 b)), (2, .const (.int .i64 c))], none⟩ :: l) s H k := by
  obtain ⟨h1, h2⟩ := lit_new hw [a, b, c] (by simp)
  exact goOp (xdo_bs38_3 a b c) rfl (h _ _ h1 h2 rfl)
/-- A cell of a tensor's own is made and filled. -/
theorem goCell {d : Nat} {o : Operand} {x y : AV} (hw : Wf H) (hx : x.one = true) (hy : y.one = true) (he : ∀ u, ev ((d, u) :: s) o = .agg [x, y]) (hd : ∀ u, ev ((d, u) :: s) (.tmp d) = u)
    (h : ∀ b ver A, Ext H A → A.at b ver = some ⟨ver, [x, y], true, true⟩ → H.c ≤ ver → ver < A.c → (∀ b' ver', Keeps H A b' ver') → YL E T false l ((d, .ptr b ver 0) :: s) A k) :
    YL E T false (⟨some d, .alloc 40, none⟩ :: ⟨none, .store 40 (.tmp d) o, none⟩ :: l) s H k := by
  have a0 := new_at H [.nilS, .nilS]
  have x0 : Ext H (H.new [.nilS, .nilS]) := (Ext.refl hw).new _
  have x1 := put_ext (cs := [x, y]) hw x0 (Nat.le_refl _) a0
  refine goOp xdo_alloc40 rfl (goOp0 (v := .bad) (H' := (H.new [.nilS, .nilS]).put H.bs.length ⟨H.c, [x, y], true, true⟩) (by simp [he, hd]; exact rfl) (by rw [st40 a0 hx hy]; rfl) (h _ _ _ x1 (at_put_same a0 rfl) (Nat.le_refl _) (Nat.lt_succ_self _) fun b' ver' => Keeps.pre x1.pre b' ver'))
end
/-- What All hands back, as lists. -/
noncomputable def allL (p : List Int × List Int) (sz sp : List Int) : List TS := (List.range (devs sz).toNat).map fun (d : Nat) => (sizeL p.1 sz sp d, partD p sz sp d)
theorem allL_len (p : List Int × List Int) (sz sp : List Int) : (allL p sz sp).length = (devs sz).toNat := by simp [allL]
theorem allL_at (p : List Int × List Int) (sz sp : List Int) {j : Nat} (h : j < (devs sz).toNat) : tth (allL p sz sp) j = (sizeL p.1 sz sp j, partD p sz sp j) := by
  simp [tth, allL, List.getD_eq_getElem?_getD, h]
theorem all_rep {H : Hp} (hw : Wf H) {p : List Int × List Int} {sz sp : List Int} (hm : mayL p sz sp = 0) : ∃ v H1, mk (allT p sz sp) H = (.tup [v, .int .i64 0], H1) ∧ Ext H H1 ∧ tensL H1 v = some (allL p sz sp) := by
  have h8 := devs_le sz
  have hres : allT p sz sp = .tup [trTs (partsN p sz sp (devs sz).toNat), .at (.int .i64 0)] := by simp [allT, hm]
  obtain ⟨bs, h1, _, h3⟩ := mk_rep (trTs (partsN p sz sp (devs sz).toNat)) (c0 := 0) hw (Nat.zero_le _) (okT_Ts 0 p sz sp _)
  refine ⟨_, _, by rw [hres, mk_tupI], h3, ?_⟩
  refine rep_tensL h1 (by rw [partsN_len, allL_len]) (by rw [allL_len]; omega) fun j hj => ?_
  rw [allL_len] at hj
  rw [allL_at p sz sp hj]
  refine ⟨trS (sizeL p.1 sz sp j), trF (partD p sz sp j), by simp [partsN, hj], .inl rfl, .inr (.inl rfl), ?_, ?_⟩
  · have := sizeL_len p.1 sz sp j
    show (sizeL p.1 sz sp j).length ≤ _
    omega
  · have := partD_len p sz sp j
    show (partD p sz sp j).length ≤ _
    omega
/-! ### the numbers -/
theorem kn_may (d : Int) (h0 : 0 ≤ d) (h1 : d < 2) : mayCut [3] [2] [0] d := ⟨by decide, by decide, h0, by rw [known_devs]; exact h1⟩
theorem kn_may1 (d : Int) (h0 : 0 ≤ d) (h1 : d < 2) : mayCut [3] [2] [-1] d := ⟨by decide, by decide, h0, by rw [known_devs]; exact h1⟩
theorem kn_s0 : sizeL [3] [2] [0] 0 = [2] := by unfold sizeL cutsL; rw [if_pos (kn_may 0 (by decide) (by decide))]; decide
theorem kn_s1 : sizeL [3] [2] [0] 1 = [1] := by unfold sizeL cutsL; rw [if_pos (kn_may 1 (by decide) (by decide))]; decide
theorem kn_f0 : fromL [3] [2] [0] 0 = [0] := by unfold fromL cutsL; rw [if_pos (kn_may 0 (by decide) (by decide))]; decide
theorem kn_f1 : fromL [3] [2] [0] 1 = [2] := by unfold fromL cutsL; rw [if_pos (kn_may 1 (by decide) (by decide))]; decide
theorem kn_t0 : sizeL [3] [2] [-1] 0 = [3] := by unfold sizeL cutsL; rw [if_pos (kn_may1 0 (by decide) (by decide))]; decide
theorem kn_t1 : sizeL [3] [2] [-1] 1 = [3] := by unfold sizeL cutsL; rw [if_pos (kn_may1 1 (by decide) (by decide))]; decide
theorem kn_all : allL ([3], [1, 2, 3]) [2] [0] = [([2], [1, 2]), ([1], [3])] := by
  have hd : (devs [2]).toNat = 2 := by decide
  have h0 : partD ([3], [1, 2, 3]) [2] [0] 0 = [1, 2] := by unfold partD; simp only [kn_s0, kn_f0]; decide
  have h1 : partD ([3], [1, 2, 3]) [2] [0] 1 = [3] := by unfold partD; simp only [kn_s1, kn_f1]; decide
  unfold allL
  rw [hd]
  simp [List.range_succ, kn_s0, kn_s1, h0, h1]
theorem kn_join (sv : AV) : joinT sv [([3], [1, 2, 3]), ([3], [1, 2, 4])] [3] [2] [-1] = zeroT 25 := by
  unfold joinT
  rw [if_pos (by decide), if_pos (by decide), if_pos, if_neg (by decide)]
  rw [allN_iff]
  intro j hj
  simp only [List.length_cons, List.length_nil] at hj
  unfold ok1
  rcases (by omega : j = 0 ∨ j = 1) with rfl | rfl
  · rw [show ((0 : Nat) : Int) = 0 from rfl, kn_t0]; decide
  · rw [show ((1 : Nat) : Int) = 1 from rfl, kn_t1]; decide
def bs45_2 (a b : AV) (H : Hp) : Option (AV × Hp) := (afill (fun j => some (j * 2, 2)) [.nilS, .nilS, .nilS, .nilS] [(0, a), (1, b)]).map fun cs => (.sl H.bs.length H.c 0 2 2 true, H.new cs)
theorem bs45_2_agg {x y z u : AV} (H : Hp) (hx : x.one = true) (hy : y.one = true) (hz : z.one = true) (hu : u.one = true) : bs45_2 (.agg [x, y]) (.agg [z, u]) H = some (.sl H.bs.length H.c 0 2 2 true, H.new [x, y, z, u]) := by
  simp [bs45_2, afill, AV.cells, hx, hy, hz, hu, setAll]
theorem xdo_bs45_2 {E : Env} {sh : Bool} {s : Sl} {H : Hp} (x y : Operand) : xdo E T sh (.buildSlice 45 2 #[(0, x), (1, y)]) s H = bs45_2 (ev s x) (ev s y) H := by
  simp [xdo, aop, D45, T40, rep, bs45_2]
theorem tensL_2 {H A : Hp} {x y z u : AV} {p q : TS} (hA : A = H.new [x, y, z, u]) (h1 : tens A (.agg [x, y]) = some p) (h2 : tens A (.agg [z, u]) = some q) : tensL A (.sl H.bs.length H.c 0 2 2 true) = some [p, q] := by
  subst hA
  simp only [tensL, new_at, Option.bind_some]
  simp [tensG, h1, h2]
def F36 (args : List AV) (H : Hp) : Option AV := match args with
  | [] => some (.bool true)
  | _ => none
set_option maxHeartbeats 2000000 in
theorem snd36 : Sound Try.prog 36 (FSem.pure F36).run := by
  refine sound_of hT (EOK_cons snd37 (EOK_cons snd38 (EOK_nil _))) mixed A36 Try.func36 hb36 (by kernel_rfl) (by kernel_rfl) (by kernel_rfl) (by kernel_rfl) sh36 0 (by kernel_rfl) rs36 hr36 ?_
  intro args H r H' hw h
  obtain ⟨rfl, hv⟩ := pureAt h
  clear h
  unfold F36 at hv
  split at hv
  rotate_left
  · cases hv
  cases hv
  refine ⟨rfl, go ?_⟩
  unfold c36
  simp only [argSl]
  refine goSeq (goReg (goOp rfl rfl (goNil (goSeqN ?_))))
  refine goSeq (goReg ?_)
  refine goLit1 hw fun v6 A1 x1 i6 m6 => ?_
  refine goLit3 x1.wf fun v7 A2 x2 i7 m7 => ?_
  have i6' := ints_ext x2.pre i6
  have hb := bld40_one (ints_one' i6') (ints_one' i7)
  apply goOp; (· (simp [hb]; exact rfl)); (· exact rfl)
  refine goCell x2.wf (ints_one' i6') (ints_one' i7) (fun u => rfl) (fun u => rfl) fun b0 q0 A3 x3 a3 u1 u2 u3 => ?_
  have ht3 := tens_of (ints_ext x3.pre i6') (ints_ext x3.pre i7)
  have l3 := ld40 a3
  refine goNil (goSeqN (goSeq (goReg ?_)))
  apply goOp; (· (simp [l3]; exact rfl)); (· exact rfl)
  refine goLit1 x3.wf fun v11 A4 x4 i11 _ => ?_
  refine goLit1 x4.wf fun v12 A5 x5 i12 m12 => ?_
  have ht5 := tens_ext (x4.pre.trans x5.pre) ht3
  obtain ⟨lv, A6, hal, x6, hL⟩ := all_rep (H := A5) x5.wf (p := ([3], [1, 2, 3])) (sz := [2]) (sp := [0]) (by decide)
  rw [kn_all] at hL
  have e37 : F37 [.agg [v6, v7], v11, v12] A5 = some (.tup [lv, .int .i64 0], A6) := by
    show (tens A5 _).bind _ = _
    rw [ht5, Option.bind_some, ints_ext x5.pre i11, Option.bind_some, i12, Option.map_some, hal]
  iterate 6 (apply goOp; (· (simp [e37]; exact rfl)); (· exact rfl))
  refine goNil (goSeqN (goSeq (goReg ?_)))
  have l6 := ld40 ((x4.pre.trans (x5.pre.trans x6.pre)).at a3)
  apply goOp; (· (simp [l6]; exact rfl)); (· exact rfl)
  refine goLit1 x6.wf fun v18 A7 x7 i18 _ => ?_
  refine goLit3 x7.wf fun v19 A8 x8 i19 _ => ?_
  have i18' := ints_ext x8.pre i18
  have hb2 := bld40_one (ints_one' i18') (ints_one' i19)
  apply goOp; (· (simp [hb2]; exact rfl)); (· exact rfl)
  have hb3 := bs45_2_agg A8 (ints_one' i6') (ints_one' i7) (ints_one' i18') (ints_one' i19)
  refine goOp (v := .sl A8.bs.length A8.c 0 2 2 true) (H' := A8.new [v6, v7, v18, v19]) (xdo_bs45_2 _ _) hb3 ?_
  have x9 : Ext A8 (A8.new [v6, v7, v18, v19]) := (Ext.refl x8.wf).new _
  have hxx := ((((x4.pre.trans x5.pre).trans x6.pre).trans x7.pre).trans x8.pre).trans x9.pre
  have hL2 : tensL (A8.new [v6, v7, v18, v19]) (.sl A8.bs.length A8.c 0 2 2 true) = some [([3], [1, 2, 3]), ([3], [1, 2, 4])] :=
    tensL_2 rfl (tens_ext hxx ht3) (tens_of (ints_ext x9.pre i18') (ints_ext x9.pre i19))
  generalize A8.new [v6, v7, v18, v19] = A9 at *
  generalize AV.sl A8.bs.length A8.c 0 2 2 true = jl at *
  refine goLit1 x9.wf fun v22 A10 x10 i22 m22 => ?_
  refine goLit1 x10.wf fun v23 A11 x11 i23 _ => ?_
  refine goLit1 x11.wf fun v24 A12 x12 i24 _ => ?_
  have e38 : F38 [jl, v22, v23, v24] A12 = some (.tup [.agg [.nilS, .nilS], .int .i64 25], A12) := by
    show (tensL A12 _).bind _ = _
    rw [tensL_ext ((x10.pre.trans x11.pre).trans x12.pre) hL2, Option.bind_some, ints_ext (x11.pre.trans x12.pre) i22, Option.bind_some, ints_ext x12.pre i23, Option.bind_some, i24, Option.bind_some, if_pos ⟨m22, by simp⟩, kn_join, mk_zero]
  iterate 4 (apply goOp; (· (simp [e38]; exact rfl)); (· exact rfl))
  refine goCell x12.wf rfl rfl (fun u => rfl) (fun u => rfl) fun b4 q4 A13 x13 a13 u4 u5 u6 => ?_
  apply goOp; (· (simp; exact rfl)); (· exact rfl)
  refine goNil (goSeqN (goSeq (goReg ?_)))
  have hp : Pre A6 A13 := (((((x7.pre.trans x8.pre).trans x9.pre).trans x10.pre).trans x11.pre).trans x12.pre).trans x13.pre
  have hPA : Pre H' A13 := ((((((x1.pre.trans x2.pre).trans x3.pre).trans x4.pre).trans x5.pre).trans x6.pre)).trans hp
  obtain ⟨hn, h1t, hat⟩ := tensL_at (tensL_ext hp hL)
  obtain ⟨q1, x1', y1, g1, g2, g3, b1, w1, o1, rfl, g4⟩ := hat 0 (by decide)
  obtain ⟨q2, x2', y2, h1, h2, h3, b2, w2, o2, rfl, h4⟩ := hat 1 (by decide)
  obtain ⟨_, _, hag, hx1, hy1⟩ := tens_some g3
  cases hag
  obtain ⟨_, _, hag, hx2, hy2⟩ := tens_some h3
  cases hag
  have hy1' : ints A13 y1 = some [1, 2] := hy1
  have hy2' : ints A13 y2 = some [3] := hy2
  have n1 := alenS_ints hy1'
  have n2 := alenS_ints hy2'
  have ix2 := aidxS_ints hy2' .i64 0
  have ld2 := aload_nth T2 rfl hy2' 0 (by decide) (by decide)
  simp only [← alen38] at n1 n2
  simp only [← aidx38] at ix2
  replace hn : alen T 45 lv = some (.int .i64 2) := hn
  replace n1 : alen T 38 y1 = some (.int .i64 2) := n1
  replace n2 : alen T 38 y2 = some (.int .i64 1) := n2
  replace ix2 : aidx T 38 y2 (.int .i64 0) = some (pAt y2 0) := ix2
  replace ld2 : aload T 2 (pAt y2 0) A13 = some (.int .i64 3) := ld2
  replace g1 : aidx T 45 lv (.int .i64 0) = some (.ptr b1 w1 o1) := g1
  replace h1 : aidx T 45 lv (.int .i64 1) = some (.ptr b2 w2 o2) := h1
  replace hPA := Hide.mk hPA
  have hww := Hide.mk hw
  clear h1t hx1 hx2 hw u1 u2 u3 u4 u5 u6 x1 x2 x3 x4 x5 x6 x7 x8 x9 x10 x11 x12 x13 i6 i7 i6' i11 i12 i18 i18' i19 i22 i23 i24 ht3 ht5 hL hL2 a3 a13 l3 l6 hxx hp hat hy1 hy2 g3 h3 hy1' hy2' e37 e38 hb hb2 hb3 m6 m7 m22 hal g2 h2
  repeat' (first | apply goSeq | apply goReg | apply goSeqN | apply goSeqR | apply goSkip | apply goRet | apply goNil | apply goBlock | apply goExit | apply goBlkN | apply goBlkR | apply goBlkE | apply goSeqE | apply goLoopR | apply goLoopE | (apply goOp; (· (simp [*]; try exact rfl)); (· exact rfl)) | (apply goOp0; (· (simp [*]; try exact rfl)); (· exact rfl)) | (apply goYes; (· (simp [*]; done)); (· (simp [*]; try exact rfl)); (· exact rfl)) | (apply goNo; (· (simp [*]; done))) | (apply goNoU; (· (simp; exact rfl))) | (apply goIfT; (· (simp [*]; done))) | (apply goIfF; (· (simp [*]; done))) | (apply goIf; (· (simp; exact rfl)); (· with_reducible exact rfl)) | (apply goSplit; (· (simp; exact rfl)); (· with_reducible exact rfl)) | (apply goIfQ; (· (simp; exact rfl)); (· exact rfl)) | (apply goSplitQ; (· (simp; exact rfl)); (· exact rfl)) | (apply goBlkX; (· rfl)) | intro _)
  exact goEnd hww.out hPA.out (by simp) (by simp [rs36]; exact rfl) rfl rfl
/- Plain law of SplitBack: what is parted is put together as it was. -/
theorem sameT_refl (p : TS) : sameT p p = true := by simp [sameT, sameL_refl]
/-! ### writes that are right -/
section
variable {D s fr sh dat : List Int}
theorem jd_keep {j : Nat} : ∀ (n : Nat) (E : List Int), (∀ i : Nat, i < n → 0 ≤ idxL s (addL (meshAt sh (i : Nat)) fr) ∧ idxL s (addL (meshAt sh (i : Nat)) fr) < E.length ∧ nth dat (i : Nat) = nth D (idxL s (addL (meshAt sh (i : Nat)) fr))) →
    (nth E j = nth D j ∨ ∃ i : Nat, i < n ∧ idxL s (addL (meshAt sh (i : Nat)) fr) = j) → nth (jd s fr sh dat n E) j = nth D j := by
  intro n
  induction n with
  | zero =>
    intro E _ h
    rcases h with h | ⟨i, hi, _⟩
    · exact h
    · omega
  | succ n ih =>
    intro E hg h
    obtain ⟨h0, h1, h2⟩ := hg n (by omega)
    simp only [jd]
    have hlen := jd_len s fr sh dat n E
    rw [nth_set _ _ _ _ (by omega)]
    split
    · rename_i hj
      rw [h2]
      congr 1
      omega
    · rename_i hj
      refine ih E (fun i hi => hg i (by omega)) ?_
      rcases h with h | ⟨i, hi, he⟩
      · exact .inl h
      · rcases Nat.lt_or_ge i n with hin | hin
        · exact .inr ⟨i, hin, he⟩
        · have : i = n := by omega
          subst this
          exact absurd (by omega) hj
end
theorem ja_keep {L : List TS} {D s sz sp : List Int} {j : Nat} : ∀ (n : Nat) (E : List Int), (∀ d : Nat, d < n → ∀ i : Nat, i < (tth L d).2.length → 0 ≤ idxL s (addL (meshAt (tth L d).1 (i : Nat)) (fromL s sz sp d)) ∧ idxL s (addL (meshAt (tth L d).1 (i : Nat)) (fromL s sz sp d)) < E.length ∧ nth (tth L d).2 (i : Nat) = nth D (idxL s (addL (meshAt (tth L d).1 (i : Nat)) (fromL s sz sp d)))) →
    (nth E j = nth D j ∨ ∃ d : Nat, d < n ∧ ∃ i : Nat, i < (tth L d).2.length ∧ idxL s (addL (meshAt (tth L d).1 (i : Nat)) (fromL s sz sp d)) = j) → nth (ja L s sz sp n E) j = nth D j := by
  intro n
  induction n with
  | zero =>
    intro E _ h
    rcases h with h | ⟨i, hi, _⟩
    · exact h
    · omega
  | succ n ih =>
    intro E hg h
    simp only [ja]
    have hlen := ja_len L s sz sp n E
    refine jd_keep _ _ (fun i hi => by rw [hlen]; exact hg n (by omega) i hi) ?_
    rcases h with h | ⟨d, hd, i, hi, he⟩
    · exact .inl (ih E (fun d hd => hg d (by omega)) (.inl h))
    · rcases Nat.lt_or_ge d n with hin | hin
      · exact .inl (ih E (fun d hd => hg d (by omega)) (.inr ⟨d, hin, i, hi, he⟩))
      · have : d = n := by omega
        subst this
        exact .inr ⟨i, hi, he⟩
/-- What a tensor, a mesh and a spec of a tape are. -/
structure Good (S D m P : List Int) : Prop where
  six : m ∈ six
  lens : ∀ x ∈ S, x ∈ lens
  s3 : S.length ≤ 3
  pl : P.length = S.length
  spec : specGo m.length [] P = true
  dl : D.length = (sizeOf S).toNat
section
variable {S D m P : List Int} (g : Good S D m P)
include g
theorem Good.shape : shapeOK S = true := shape_3 g.s3 g.lens
theorem Good.mesh : meshOK m = true := (six_ok m g.six).1
theorem Good.sok : specOK m P S.length = true := (may_six g.six g.lens g.s3 g.pl g.spec (d := 0) (six_ok m g.six).2.1).2.1
theorem Good.tok : tOK (S, D) = true := by
  have := g.dl
  have := sizeOf_nonneg S
  simp only [Pq.tOK, g.shape, Bool.true_and, decide_eq_true_eq]
  omega
theorem Good.may : mayL (S, D) m P = 0 := by
  unfold mayL
  rw [if_neg (by simp [g.tok]), if_neg (by simp [g.sok])]
theorem Good.ct {d : Nat} (h : (d : Int) < devs m) : mayCut S m P d := may_six g.six g.lens g.s3 g.pl g.spec h
theorem Good.dv : (devs m).toNat = devs m ∧ devs m ≤ 8 ∧ 0 < devs m := by have := six_ok m g.six; omega
theorem Good.sz7 {d : Nat} (h : (d : Int) < devs m) : (∀ x ∈ sizeL S m P d, 0 ≤ x ∧ x ≤ 7) ∧ (sizeL S m P d).length = S.length := by
  have hk : ∀ k ∈ P, k < m.length := fun k h => (spec_rng g.spec k h).2
  rw [sizeL_szs g.lens g.pl (g.ct h)]
  exact ⟨szs_rng g.six h S P g.lens hk, szs_len _ _ _ _ g.pl.symm⟩
end
theorem shape_7 {s : List Int} (h3 : s.length ≤ 3) (hr : ∀ x ∈ s, 0 ≤ x ∧ x ≤ 7) : shapeOK s = true := by
  have hp := prodW_3 h3 hr
  have key : ∀ (l : List Int) (n : Int), (∀ x ∈ l, 0 ≤ x ∧ x ≤ 7) → shapeGo n l = decide (prodW n l ≤ 4096) := by
    intro l
    induction l with
    | nil => intro n _; rfl
    | cons k l ih =>
      intro n hl
      have hk := hl k (by simp)
      simp only [shapeGo, prodW]
      rw [if_neg (by omega)]
      exact ih _ fun x hx => hl x (by simp [hx])
  unfold shapeOK
  rw [if_neg (by omega), key s 1 hr]
  simp only [decide_eq_true_eq]
  omega
section
variable {S D m P : List Int} (g : Good S D m P)
include g
theorem Good.part {d : Nat} (h : (d : Int) < devs m) : shapeOK (sizeL S m P d) = true ∧ sizeOf (sizeL S m P d) = prodW 1 (sizeL S m P d) ∧ (partD (S, D) m P d).length = sizeOf (sizeL S m P d) := by
  obtain ⟨h1, h2⟩ := g.sz7 h
  have hs := shape_7 (by have := g.s3; omega) h1
  refine ⟨hs, by simp [sizeOf, hs], ?_⟩
  unfold partD
  rw [madeL_len]
  have := sizeOf_nonneg (sizeL S m P d)
  show ((sizeOf (sizeL S m P d)).toNat : Int) = _
  omega
/-- The numbers of a part are the tensor's. -/
theorem Good.num {d i : Nat} (h : (d : Int) < devs m) (hi : i < (partD (S, D) m P d).length) : 0 ≤ idxL S (addL (meshAt (sizeL S m P d) (i : Nat)) (fromL S m P d)) ∧ idxL S (addL (meshAt (sizeL S m P d) (i : Nat)) (fromL S m P d)) < sizeOf S ∧ nth (partD (S, D) m P d) (i : Nat) = nth D (idxL S (addL (meshAt (sizeL S m P d) (i : Nat)) (fromL S m P d))) := by
  obtain ⟨h1, h2, h3⟩ := g.part h
  have hw := whole_in (g.ct h) h1 (i := (i : Int)) (by omega) (by omega)
  have hl : (addL (meshAt (sizeL S m P d) (i : Nat)) (fromL S m P d)).length = S.length := by rw [addL_len, meshAt_len, (g.sz7 h).2]
  have hin := idxL_in g.shape hl (fun j hj => (hw j hj).2)
  refine ⟨hin.1, hin.2, ?_⟩
  have e : nth (partD (S, D) m P d) (i : Nat) = atT (S, D) (addL (meshAt (sizeL S m P d) (i : Nat)) (fromL S m P d)) := by
    have hi' : i < (sizeOf (sizeL S m P d)).toNat := by rw [partD, madeL_len] at hi; exact hi
    simp [partD, madeL, nth, List.getD_eq_getElem?_getD, hi']
  have hp : plT (S, D) (addL (meshAt (sizeL S m P d) (i : Nat)) (fromL S m P d)) = idxL S (addL (meshAt (sizeL S m P d) (i : Nat)) (fromL S m P d)) := by
    unfold plT
    rw [if_pos g.tok]
  rw [e]
  unfold atT
  rw [hp, if_neg (by omega)]
theorem Good.allLen : (allL (S, D) m P).length = (devs m).toNat ∧ ∀ d : Nat, (d : Int) < devs m → tth (allL (S, D) m P) d = (sizeL S m P d, partD (S, D) m P d) :=
  ⟨allL_len _ _ _, fun d h => allL_at _ _ _ (by omega)⟩
theorem Good.jD : joinD (allL (S, D) m P) S m P = D := by
  obtain ⟨hd1, hd2, hd3⟩ := g.dv
  obtain ⟨hal, hat⟩ := g.allLen
  have hD := g.dl
  have hn := sizeOf_nonneg S
  have hlen := ja_len (allL (S, D) m P) S m P (allL (S, D) m P).length (List.replicate (sizeOf S).toNat 0)
  unfold Pq.joinD
  refine list_nth (by rw [hlen]; simp [hD]) fun j hj => ?_
  rw [hlen] at hj
  simp only [List.length_replicate] at hj
  refine ja_keep _ _ (fun d hd i hi => ?_) (.inr ?_)
  · rw [hat d (by omega)] at hi ⊢
    obtain ⟨h1, h2, h3⟩ := g.num (by omega) hi
    exact ⟨h1, by simp; omega, h3⟩
  · have ha := place_in g.shape (i := (j : Int)) (by omega) (by omega)
    obtain ⟨hc, hcov⟩ := cover (a := meshAt S j) g.shape g.sok ha
    generalize ofL m (coord S m P (meshAt S j)) = dd at hc hcov
    obtain ⟨d, rfl⟩ : ∃ d : Nat, dd = d := ⟨dd.toNat, by have := hc.2.2.1; omega⟩
    have hdv := hc.2.2.2
    obtain ⟨p1, p2, p3⟩ := g.part hdv
    obtain ⟨q1, q2, q3⟩ := part_rng hc
    refine ⟨d, by omega, ?_⟩
    rw [hat d hdv]
    -- the place in the part
    let b : List Int := (List.range S.length).map fun (i : Nat) => nth (meshAt S j) i - nth (fromL S m P d) i
    have hbl : b.length = (sizeL S m P d).length := by simp [b, q2]
    have hbn : ∀ i : Nat, i < S.length → nth b i = nth (meshAt S j) i - nth (fromL S m P d) i := by
      intro i hi
      simp [b, nth, List.getD_eq_getElem?_getD, hi]
    have hbi : ∀ i : Nat, i < (sizeL S m P d).length → 0 ≤ nth b i ∧ nth b i < nth (sizeL S m P d) i := by
      intro i hi
      rw [hbn i (by omega)]
      have := hcov i (by omega)
      omega
    have hin := idxL_in p1 hbl hbi
    obtain ⟨i, hi⟩ : ∃ i : Nat, idxL (sizeL S m P d) b = i := ⟨(idxL (sizeL S m P d) b).toNat, by omega⟩
    refine ⟨i, by show i < (partD (S, D) m P d).length; omega, ?_⟩
    show idxL S (addL (meshAt (sizeL S m P d) (i : Nat)) (fromL S m P d)) = j
    have hab : addL (meshAt (sizeL S m P d) (i : Nat)) (fromL S m P d) = meshAt S j := by
      rw [← hi, at_idx p1 hbl hbi]
      refine list_nth (by rw [addL_len, meshAt_len]; omega) fun k hk => ?_
      rw [addL_len] at hk
      have hs := (shapeOK_rng g.shape).2 k (by omega)
      have := ha k (by omega)
      rw [nth_addL' _ _ _ hk (by omega), hbn k (by omega), Int.sub_add_cancel, w_id (by omega)]
    rw [hab]
    exact idx_at g.shape (by omega) (by omega)
theorem Good.join (sv : AV) : joinT sv (allL (S, D) m P) S m P = okTn (clT sv S) (trF D) := by
  obtain ⟨hd1, hd2, hd3⟩ := g.dv
  obtain ⟨hal, hat⟩ := g.allLen
  unfold joinT
  rw [if_pos ⟨g.mesh, g.shape, g.sok⟩, if_pos (by omega), if_pos, if_pos, g.jD]
  · rw [allN_iff]
    intro d hd
    have hdv : (d : Int) < devs m := by omega
    obtain ⟨hf, f1, f2⟩ := part_first (g.ct hdv)
    obtain ⟨e, he⟩ : ∃ e : Nat, firstL m P d = e := ⟨(firstL m P d).toNat, by have := hf.2.2.1; omega⟩
    rw [he] at hf f1 f2
    unfold ok2
    rw [he, Int.toNat_natCast, hat d hdv, hat e hf.2.2.2]
    unfold partD
    simp only [f1, f2]
    exact sameT_refl _
  · rw [allN_iff]
    intro d hd
    have hdv : (d : Int) < devs m := by omega
    obtain ⟨p1, p2, p3⟩ := g.part hdv
    unfold ok1
    rw [hat d hdv]
    simp [Pq.tOK, p1, p3, sameL_refl]
end
/-- How many numbers the first tensors of a list have. -/
def sumN (L : List TS) : Nat → Int
  | 0 => 0
  | d + 1 => w (sumN L d + (tth L d).2.length)
section
variable {S D m P : List Int} (g : Good S D m P)
include g
theorem Good.sumN_eq : ∀ n : Nat, (n : Int) ≤ devs m → sumN (allL (S, D) m P) n = sumD S m P n := by
  intro n
  induction n with
  | zero => intro _; rfl
  | succ n ih =>
    intro hn
    simp only [sumN, sumD]
    rw [ih (by omega), g.allLen.2 n (by omega)]
    show w (_ + ((partD (S, D) m P n).length : Int)) = _
    obtain ⟨p1, p2, p3⟩ := g.part (d := n) (by omega)
    rw [p3, p2]
theorem Good.sum : sumN (allL (S, D) m P) (allL (S, D) m P).length = w (D.length * rCopies m P) := by
  have hn := sizeOf_nonneg S
  have hd := g.dl
  have hz : sizeOf S = prodW 1 S := by simp [sizeOf, g.shape]
  have hdl : (D.length : Int) = prodW 1 S := by omega
  rw [g.allLen.1, g.sumN_eq _ (by have := g.dv; omega), sum_law g.six g.lens g.s3 g.pl g.spec, hdl]
end
/- Walks: SplitBack. -/
theorem made_good {l : List Int} (hr : In64 l) : Good (mdS l).1 (mdD l).1 (mdM l) (mdP l).1 := by
  obtain ⟨hk0, hk1⟩ := next_in hr 0 7 (by omega)
  obtain ⟨hn0, hn3⟩ := next_in hr (nextAt l 0 7) 4 (by omega)
  have h3 : (mdS l).1.length = (nextOf l (nextAt l 0 7) 4).toNat := shapeT_len l _ _
  refine ⟨?_, shapeT_mem hr _ _, by omega, specT_len l _ _ _ _, ?_, dataT_len l _ _⟩
  · have hlt : (nextOf l 0 7).toNat < seven.length := by simp [seven]; omega
    have : mdM l = seven[(nextOf l 0 7).toNat] := by
      simp only [mdM, List.getD_eq_getElem?_getD, List.getElem?_eq_getElem hlt, Option.getD_some]
    rw [this]
    have hsub : ∀ m ∈ seven, m ∈ six := by decide
    exact hsub _ (List.getElem_mem hlt)
  · exact specT_ok hr _ _ _ _ [] (by simp) (by simp)
theorem trC_notMt {c : Nat} {H : Hp} {l : List Int} {v : AV} {bs : List (Nat × Nat)} (h : Rep c H (trC l) v bs) : notMt v = true := by
  unfold trC at h
  split at h
  · obtain ⟨b, ver, rfl, _⟩ := rep_F.1 h; rfl
  · rcases rep_S.1 h with ⟨_, rfl, _⟩ | ⟨b, ver, rfl, _⟩ <;> rfl
theorem trF_notMt {c : Nat} {H : Hp} {l : List Int} {v : AV} {bs : List (Nat × Nat)} (h : Rep c H (trF l) v bs) : notMt v = true := by
  obtain ⟨b, ver, rfl, _⟩ := rep_F.1 h; rfl
theorem made_rep {H : Hp} (hw : Wf H) {l : List Int} (hr : In64 l) : ∃ x y mv pv A, mk (madeTr l) H = (.tup [.agg [x, y], mv, pv], A) ∧ Ext H A ∧ ints A x = some (mdS l).1 ∧ ints A y = some (mdD l).1 ∧ ints A mv = some (mdM l) ∧ ints A pv = some (mdP l).1 ∧ notMt x = true ∧ notMt y = true ∧ notMt mv = true ∧ notMt pv = true := by
  have g := made_good hr
  have h3 := g.s3
  have hm := (six_ok _ g.six).2.2.2
  have hp := g.pl
  have hd := g.dl
  have hz := sizeOf_le (mdS l).1
  obtain ⟨bs, h1, _, h2⟩ := mk_rep (madeTr l) (c0 := 0) hw (Nat.zero_le _) (by simp [madeTr, okT, okTs, okT_C, okT_S, okT_F])
  have e : mk (madeTr l) H = ((mk (madeTr l) H).1, (mk (madeTr l) H).2) := rfl
  generalize (mk (madeTr l) H).1 = v at *
  generalize (mk (madeTr l) H).2 = A at *
  unfold madeTr at h1
  simp only [Rep, Reps] at h1
  obtain ⟨vs, rfl, v1, vs1, b1, b2, rfl, ⟨ws, rfl, x, ws1, c1, c2, rfl, rx, ⟨y, ws2, d1, d2, rfl, ry, ⟨rfl, _⟩, _⟩, _⟩, ⟨mv, vs2, e1, e2, rfl, rm, ⟨pv, vs3, f1, f2, rfl, rp, ⟨rfl, _⟩, _⟩, _⟩, _⟩ := h1
  refine ⟨x, y, mv, pv, A, e, h2, repL_ints (by omega) (.inr (.inr rx)), repL_ints (by omega) (.inl ry), repL_ints (by omega) (.inr (.inl rm)), repL_ints (by omega) (.inr (.inl rp)), trC_notMt rx, ?_, trF_notMt rm, trF_notMt rp⟩
  rcases rep_S.1 ry with ⟨_, rfl, _⟩ | ⟨b, ver, rfl, _⟩ <;> rfl
theorem F31_at {H : Hp} {v : AV} {l : List Int} (hl : ints H v = some l) (hr : In64 l) : F31 [v] H = some (mk (madeTr l) H) := by
  show (ints H v).bind _ = _
  rw [hl, Option.bind_some, if_pos hr]
theorem F37_at {H : Hp} {t a b : AV} {p : TS} {sz sp : List Int} (ht : tens H t = some p) (ha : ints H a = some sz) (hb : ints H b = some sp) : F37 [t, a, b] H = some (mk (allT p sz sp) H) := by
  show (tens H t).bind _ = _
  rw [ht, Option.bind_some, ha, Option.bind_some, hb, Option.map_some]
theorem F38_at {H : Hp} {t s a b : AV} {L : List TS} {sh sz sp : List Int} (ht : tensL H t = some L) (hs : ints H s = some sh) (ha : ints H a = some sz) (hb : ints H b = some sp) (hm : notMt s = true) (hl : sh.length < 1099511627776) : F38 [t, s, a, b] H = some (mk (joinT s L sh sz sp) H) := by
  show (tensL H t).bind _ = _
  rw [ht, Option.bind_some, hs, Option.bind_some, ha, Option.bind_some, hb, Option.bind_some, if_pos ⟨hm, hl⟩]
/-- A tensor that Join hands back. -/
theorem join_rep {H : Hp} (hw : Wf H) {sv : AV} {S D : List Int} (hsv : ints H sv = some S) (hS : S.length ≤ 1152921504606846976) (hD : D.length ≤ 1152921504606846976) : ∃ x y A, mk (okTn (clT sv S) (trF D)) H = (.tup [.agg [x, y], .int .i64 0], A) ∧ Ext H A ∧ tens A (.agg [x, y]) = some (S, D) := by
  obtain ⟨bs, r1, _, x1, t1⟩ := mk_tens (H := H) hw (a := clT sv S) (b := trF D) (clT_is hsv) (.inr (.inl rfl)) hS hD
  rw [mk_okTn]
  obtain ⟨x, y, b1, b2, e, _⟩ := rep_agg2.1 r1
  refine ⟨x, y, _, by rw [← e], x1, by rw [← e]; exact t1⟩
open Classical in
noncomputable def F10 (args : List AV) (H : Hp) : Option AV := match args with
  | [v] => if ∃ l, ints H v = some l ∧ In64 l then some (.bool true) else none
  | _ => none
set_option maxHeartbeats 4000000 in
theorem snd10 : Sound Try.prog 10 (FSem.pure F10).run := by
  refine sound_of hT (EOK_cons snd31 (EOK_cons snd37 (EOK_cons snd38 (EOK_cons snd39 (EOK_cons snd23 (EOK_cons snd20 (EOK_cons snd36 (EOK_nil _)))))))) mixed A10 Try.func10 hb10 (by kernel_rfl) (by kernel_rfl) (by kernel_rfl) (by kernel_rfl) sh10 1 (by kernel_rfl) rs10 hr10 ?_
  intro args H r H' hw h
  obtain ⟨rfl, hv⟩ := pureAt h
  clear h
  unfold F10 at hv
  split at hv
  rotate_left
  · cases hv
  rename_i v
  split at hv
  rotate_left
  · cases hv
  rename_i hex
  obtain ⟨l, hl, hr⟩ := hex
  cases hv
  have g := made_good hr
  obtain ⟨x, y, mv, pv, A1, e31, x1, ix, iy, im, ip, mx, my, mm', mp⟩ := made_rep (H := H') hw hr
  have e31' := F31_at hl hr
  rw [e31] at e31'
  generalize (mdS l).1 = S at *
  generalize (mdD l).1 = D at *
  generalize mdM l = m at *
  generalize (mdP l).1 = P at *
  clear e31
  refine ⟨rfl, go ?_⟩
  unfold c10
  simp only [argSl]
  refine goSeq (goReg (goOp rfl rfl (goNil (goSeqN ?_))))
  refine goSeq (goReg ?_)
  iterate 6 (apply goOp; (· (simp [e31']; try exact rfl)); (· exact rfl))
  refine goCell x1.wf (ints_one' ix) (ints_one' iy) (fun u => rfl) (fun u => rfl) fun b0 q0 A2 x2 a2 u1 u2 u3 => ?_
  iterate 2 (apply goOp; (· (simp; try exact rfl)); (· exact rfl))
  refine goNil (goSeqN (goSeq (goReg ?_)))
  have hz := sizeOf_le S
  have hdl := g.dl
  have h3 := g.s3
  have ht2 := tens_of (ints_ext x2.pre ix) (ints_ext x2.pre iy)
  have im2 := ints_ext x2.pre im
  have ip2 := ints_ext x2.pre ip
  obtain ⟨lv, A3, hal, x3, hL⟩ := all_rep (H := A2) x2.wf g.may
  have e37 := F37_at ht2 im2 ip2
  rw [hal] at e37
  have l2 := ld40 a2
  iterate 9 (apply goOp; (· (simp [e37, l2]; try exact rfl)); (· exact rfl))
  refine goNil (goSeqN (goSeq (goReg ?_)))
  have a3 := x3.pre.at a2
  have l3 := ld22 a3 0
  simp only [List.getElem?_cons_zero] at l3
  have ix3 := ints_ext (x2.pre.trans x3.pre) ix
  have im3 := ints_ext x3.pre im2
  have ip3 := ints_ext x3.pre ip2
  have e38 := F38_at hL ix3 im3 ip3 mx (by omega)
  rw [g.join] at e38
  obtain ⟨jx, jy, A4, hj, x4, ht4⟩ := join_rep (D := D) x3.wf ix3 (by omega) (by omega)
  rw [hj] at e38
  iterate 9 (apply goOp; (· (simp [e38, l3]; try exact rfl)); (· exact rfl))
  obtain ⟨_, _, hag, ijx, ijy⟩ := tens_some ht4
  cases hag
  refine goCell x4.wf (ints_one' ijx) (ints_one' ijy) (fun u => rfl) (fun u => rfl) fun b4 q4 A5 x5 a5 u4 u5 u6 => ?_
  apply goOp; (· (simp; try exact rfl)); (· exact rfl)
  refine goNil (goSeqN (goSeq (goReg ?_)))
  apply goOp; (· (simp; try exact rfl)); (· exact rfl)
  refine goNil (goSeqN ?_)
  -- the numbers of all parts
  have hp35 : Pre A3 A5 := x4.pre.trans x5.pre
  have hPre : Pre H' A5 := ((x1.pre.trans x2.pre).trans x3.pre).trans hp35
  obtain ⟨hn, hn8, hat⟩ := tensL_at (tensL_ext hp35 hL)
  have hsum := g.sum
  have hdv := g.dv
  have hlen := g.allLen.1
  obtain ⟨n, hnL⟩ : ∃ n : Nat, (allL (S, D) m P).length = n := ⟨_, rfl⟩
  have hrD : rDevs m = n := by rw [rDevs_eq]; omega
  generalize allL (S, D) m P = L at *
  subst hnL
  have l5 := ld40 (hp35.at a3)
  have l5' := ld38 (hp35.at a3) 1
  have l6 := ld40 a5
  have ht5 := tens_ext ((x3.pre.trans hp35)) ht2
  have ht6 := tens_ext x5.pre ht4
  have im5 := ints_ext hp35 im3
  have ip5 := ints_ext hp35 ip3
  have iy5 := ints_ext (x2.pre.trans (x3.pre.trans hp35)) iy
  have hly := alenS_ints iy5
  simp only [← alen38] at hly
  simp only [List.getElem?_cons_zero, List.getElem?_cons_succ] at l5'
  have hpl := g.pl
  replace hPre := Hide.mk hPre
  replace hsum := Hide.mk hsum
  replace hw := Hide.mk hw
  clear u1 u2 u3 u4 u5 u6 mx my mm' mp hl hr e31' g x1 x2 x3 x4 x5 ix iy im ip a2 ht2 im2 ip2 hal e37 l2 l3 ix3 im3 ip3 e38 hj ht4 ijx ijy hL hlen hdv hz hdl
  refine goSeq ?_
  refine goSeq (goReg ?_)
  iterate 3 (apply goOp; (· (simp [hn]; try exact rfl)); (· exact rfl))
  refine goNil (goSeqN (goBlock ?_))
  refine goLoop (fun mm s1 G => G = A5 ∧ ∃ i : Nat, mm = L.length - i ∧ i ≤ L.length ∧ get s1 3 = .ptr b0 q0 0 ∧ get s1 4 = mv ∧ get s1 5 = pv ∧ get s1 6 = lv ∧ get s1 7 = .int .i64 0 ∧ get s1 8 = .ptr b4 q4 0 ∧ get s1 9 = .int .i64 0 ∧ get s1 10 = .int .i64 (sumN L i) ∧ get s1 35 = .int .i64 L.length ∧ get s1 36 = .int .i64 i) L.length ?_ ?_
  · exact ⟨rfl, 0, rfl, Nat.zero_le _, rfl, rfl, rfl, rfl, rfl, rfl, rfl, rfl, rfl, rfl⟩
  rintro mm s1 G ⟨rfl, i, hmm, hi, g1, g2, g3, g4, g5, g6, g7, g8, g9, g10⟩
  simp only [cut_cons, cut_nil, g1, g2, g3, g4, g5, g6, g7, g8, g9, g10]
  clear g1 g2 g3 g4 g5 g6 g7 g8 g9 g10
  have hi0 : (0 : Int) ≤ i := Int.natCast_nonneg i
  have hw1 : w ((i : Int) + 1) = ((i + 1 : Nat) : Int) := w_id (by omega)
  by_cases hiL : i < L.length
  · have hiL' : (i : Int) < L.length := by omega
    obtain ⟨q, x', y', h1, h2, h3', b', w', o', rfl, h4⟩ := hat i hiL
    obtain ⟨_, _, hag, _, hy'⟩ := tens_some h3'
    cases hag
    have hny := alenS_ints hy'
    simp only [← alen38] at hny
    have hsn : w (sumN L i + (tth L i).2.length) = sumN L (i + 1) := rfl
    clear hat h3' hy' hp35 a3 a5 hn8 l5 l5' l6 ht5 ht6 im5 ip5 iy5 hly hrD hpl h3
    repeat' (first | apply goSeq | apply goReg | apply goSeqN | apply goSeqR | apply goSkip | apply goRet | apply goNil | apply goBlock | apply goExit | apply goBlkN | apply goBlkR | apply goBlkE | apply goSeqE | apply goLoopR | apply goLoopE | (apply goOp; (· (simp [*]; try exact rfl)); (· exact rfl)) | (apply goOp0; (· (simp [*]; try exact rfl)); (· exact rfl)) | (apply goYes; (· (simp [*]; done)); (· (simp [*]; try exact rfl)); (· exact rfl)) | (apply goNo; (· (simp [*]; done))) | (apply goNoU; (· (simp; exact rfl))) | (apply goIfT; (· (simp [*]; done))) | (apply goIfF; (· (simp [*]; done))) | (apply goIf; (· (simp; exact rfl)); (· with_reducible exact rfl)) | (apply goSplit; (· (simp; exact rfl)); (· with_reducible exact rfl)) | (apply goIfQ; (· (simp; exact rfl)); (· exact rfl)) | (apply goSplitQ; (· (simp; exact rfl)); (· exact rfl)) | (apply goBlkX; (· rfl)) | intro _)
    exact goLoopN (L.length - (i + 1)) (by omega) ⟨rfl, i + 1, rfl, by omega, rfl, rfl, rfl, rfl, rfl, rfl, rfl, rfl, rfl, rfl⟩
  · have hiE : i = L.length := by omega
    subst hiE
    have hiL' : ¬ ((L.length : Int) < L.length) := by omega
    have hsu := hsum.out
    have hst := sameT_refl (S, D)
    have hP : P.length < 1099511627776 := by omega
    clear hat hp35 a3 a5 hn8 iy5 hpl h3 hmm hi hiL hw1 hi0
    repeat' (first | apply goSeq | apply goReg | apply goSeqN | apply goSeqR | apply goSkip | apply goRet | apply goNil | apply goBlock | apply goExit | apply goBlkN | apply goBlkR | apply goBlkE | apply goSeqE | apply goLoopR | apply goLoopE | (apply goOp; (· (simp [*]; try exact rfl)); (· exact rfl)) | (apply goOp0; (· (simp [*]; try exact rfl)); (· exact rfl)) | (apply goYes; (· (simp [*]; done)); (· (simp [*]; try exact rfl)); (· exact rfl)) | (apply goNo; (· (simp [*]; done))) | (apply goNoU; (· (simp; exact rfl))) | (apply goIfT; (· (simp [*]; done))) | (apply goIfF; (· (simp [*]; done))) | (apply goIf; (· (simp; exact rfl)); (· with_reducible exact rfl)) | (apply goSplit; (· (simp; exact rfl)); (· with_reducible exact rfl)) | (apply goIfQ; (· (simp; exact rfl)); (· exact rfl)) | (apply goSplitQ; (· (simp; exact rfl)); (· exact rfl)) | (apply goBlkX; (· rfl)) | intro _)
    exact goEnd hw.out hPre.out (by simp) (by simp [rs10]; exact rfl) rfl rfl
end Go.Proofs.Ytokadkakmhfdeaa.Pq
