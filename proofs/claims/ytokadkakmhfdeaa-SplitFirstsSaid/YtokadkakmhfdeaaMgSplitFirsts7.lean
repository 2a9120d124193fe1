/- What the proof of a statement of this seat rests on, part 7: PqWW, PqWX, PqXA, PqXB, PqWY, PqC5b, PqWFb, PqCB, PqWZ, PqY1. -/
import Derived.Test.YtokadkakmhfdeaaMgSplitFirsts6
set_option linter.unusedVariables false
set_option linter.unusedSimpArgs false
set_option linter.unusedSectionVars false
namespace Go.Proofs.Ytokadkakmhfdeaa.Pq
open Go.RowKit
/- Walks: a tensor, a mesh and a spec of a tape. -/
theorem Fresh.perm {c d : Nat} {a b : List (Nat × Nat)} (h : Fresh c d a) (p : a.Perm b) : Fresh c d b := ⟨p.nodup_iff.1 h.1, fun q hq => h.2 q (p.mem_iff.2 hq)⟩
def seven : List (List Int) := [[2], [2, 4], [3, 2], [2, 2, 2], [], [5], [2, 2]]
theorem litH_rep : ∀ (L : List (List Int)) {H : Hp}, Wf H → ∀ k : Nat, k < L.length → ∃ m b ver, (litH H L).1[k]? = some (.sl b ver 0 m.length 1 true) ∧ L[k]? = some m ∧ (litH H L).2.at b ver = some ⟨ver, m.map (.int .i64), true, true⟩ ∧ H.bs.length ≤ b ∧ H.c ≤ ver ∧ ver < (litH H L).2.c := by
  intro L
  induction L with
  | nil => intro H _ k hk; simp at hk
  | cons l L ih =>
    intro H hw k hk
    cases k with
    | zero =>
      refine ⟨l, _, _, rfl, rfl, (litH_ext L (hw.new _)).pre.at (new_at _ _), Nat.le_refl _, Nat.le_refl _, ?_⟩
      have := (litH_ext L (hw.new (l.map (.int .i64)))).c
      rw [new_c] at this
      show H.c < (litH _ L).2.c
      omega
    | succ k =>
      obtain ⟨m, b, ver, h1, h2, h3, h4, h5, h6⟩ := ih (hw.new (l.map (.int .i64))) k (by simpa using hk)
      rw [new_len] at h4
      rw [new_c] at h5
      exact ⟨m, b, ver, by simpa [litH] using h1, by simpa using h2, h3, by omega, by omega, h6⟩
theorem xdo_bs26_g7 {E : Env} {sh : Bool} {s : Sl} {H : Hp} (x0 x1 x2 x3 x4 x5 x6 : Operand) {v0 v1 v2 v3 v4 v5 v6 : AV} (h0 : ev s x0 = v0) (h1 : ev s x1 = v1) (h2 : ev s x2 = v2) (h3 : ev s x3 = v3) (h4 : ev s x4 = v4) (h5 : ev s x5 = v5) (h6 : ev s x6 = v6)
    (g : [v0, v1, v2, v3, v4, v5, v6].all (fun v => match v with | .sl .. => true | _ => false) = true) :
    xdo E T sh (.buildSlice 26 7 #[(0, x0), (1, x1), (2, x2), (3, x3), (4, x4), (5, x5), (6, x6)]) s H = some (.sl H.bs.length H.c 0 7 1 true, H.new [v0, v1, v2, v3, v4, v5, v6]) := by
  simp only [List.all_cons, List.all_nil, Bool.and_true, Bool.and_eq_true] at g
  obtain ⟨g0, g1, g2, g3, g4, g5, g6⟩ := g
  cases v0 <;> first | cases g0 | skip
  cases v1 <;> first | cases g1 | skip
  cases v2 <;> first | cases g2 | skip
  cases v3 <;> first | cases g3 | skip
  cases v4 <;> first | cases g4 | skip
  cases v5 <;> first | cases g5 | skip
  cases v6 <;> first | cases g6 | skip
  simp [xdo, aop, D26, T22, rep, afill, setAll, AV.cells, AV.one, h0, h1, h2, h3, h4, h5, h6]
theorem goLits7 {E : Env} {s : Sl} {H : Hp} {k : Ct} {l : List Co}
    (h : ∀ (v0 v1 v2 v3 v4 v5 v6 : AV) (HL : Hp), litH H seven = ([v0, v1, v2, v3, v4, v5, v6], HL) →
      YL E T false l ((18, .sl HL.bs.length HL.c 0 7 1 true) :: (17, v6) :: (16, v5) :: (15, v4) :: (14, v3) :: (13, v2) :: (12, v1) :: (11, v0) :: s) (HL.new [v0, v1, v2, v3, v4, v5, v6]) k) :
    YL E T false (⟨some 11, (Op.buildSlice 22 1 #[(0, (Operand.const (Value.int IntKind.i64 2)))]), none⟩ ::
    ⟨some 12, (Op.buildSlice 22 2 #[(0, (Operand.const (Value.int IntKind.i64 2))), (1, (Operand.const (Value.int IntKind.i64 4)))]), none⟩ ::
    ⟨some 13, (Op.buildSlice 22 2 #[(0, (Operand.const (Value.int IntKind.i64 3))), (1, (Operand.const (Value.int IntKind.i64 2)))]), none⟩ ::
    ⟨some 14, (Op.buildSlice 22 3 #[(0, (Operand.const (Value.int IntKind.i64 2))), (1, (Operand.const (Value.int IntKind.i64 2))), (2, (Operand.const (Value.int IntKind.i64 2)))]), none⟩ ::
    ⟨some 15, (Op.buildSlice 22 0 #[]), none⟩ ::
    ⟨some 16, (Op.buildSlice 22 1 #[(0, (Operand.const (Value.int IntKind.i64 5)))]), none⟩ ::
    ⟨some 17, (Op.buildSlice 22 2 #[(0, (Operand.const (Value.int IntKind.i64 2))), (1, (Operand.const (Value.int IntKind.i64 2)))]), none⟩ ::
    ⟨some 18, (Op.buildSlice 26 7 #[(0, (Operand.tmp 11)), (1, (Operand.tmp 12)), (2, (Operand.tmp 13)), (3, (Operand.tmp 14)), (4, (Operand.tmp 15)), (5, (Operand.tmp 16)), (6, (Operand.tmp 17))]), none⟩ :: l) s H k := by
  refine goOp (xdo_bs22_1 2) rfl ?_
  refine goOp (xdo_bs22_2 2 4) rfl ?_
  refine goOp (xdo_bs22_2 3 2) rfl ?_
  refine goOp (xdo_bs22_3 2 2 2) rfl ?_
  refine goOp xdo_bs22_0 rfl ?_
  refine goOp (xdo_bs22_1 5) rfl ?_
  refine goOp (xdo_bs22_2 2 2) rfl ?_
  refine goOp (xdo_bs26_g7 _ _ _ _ _ _ _ rfl rfl rfl rfl rfl rfl rfl rfl) rfl ?_
  exact h _ _ _ _ _ _ _ _ rfl
/-! ### what it comes to -/
def mdM (l : List Int) : List Int := seven.getD (nextOf l 0 7).toNat []
def mdS (l : List Int) : List Int × Nat := shapeT l (nextOf l (nextAt l 0 7) 4).toNat (nextAt l (nextAt l 0 7) 4)
def mdD (l : List Int) : List Int × Nat := dataT l (sizeOf (mdS l).1).toNat (mdS l).2
def mdP (l : List Int) : List Int × Nat := specT l (mdM l).length (mdS l).1.length (mdD l).2 (List.replicate (mdM l).length false)
def madeTr (l : List Int) : Tr := .tup [.agg [trC (mdS l).1, trS (mdD l).1], trF (mdM l), trF (mdP l).1]
theorem seven_len : ∀ m ∈ seven, m.length ≤ 3 := by decide
open Classical in
noncomputable def F31 (args : List AV) (H : Hp) : Option (AV × Hp) := match args with
  | [v] => (ints H v).bind fun l => if In64 l then some (mk (madeTr l) H) else none
  | _ => none
theorem rep_tup3 {c : Nat} {H : Hp} {a b d : Tr} {x y z : AV} {b1 b2 b3 : List (Nat × Nat)} (h1 : Rep c H a x b1) (h2 : Rep c H b y b2) (h3 : Rep c H d z b3) : Rep c H (.tup [a, b, d]) (.tup [x, y, z]) (b1 ++ (b2 ++ b3)) := by
  simp only [Rep, Reps]
  exact ⟨_, rfl, x, _, b1, b2 ++ b3, rfl, h1, ⟨y, _, b2, b3, rfl, h2, ⟨z, _, b3, [], rfl, h3, ⟨rfl, rfl⟩, by simp⟩, rfl⟩, rfl⟩
set_option maxHeartbeats 4000000 in
theorem snd31 : Sound Try.prog 31 (FSem.eff F31).run := by
  refine sound_of hT (EOK_cons snd16 (EOK_cons snd17 (EOK_cons snd18 (EOK_cons snd80 (EOK_nil _))))) mixed A31 Try.func31 hb31 (by kernel_rfl) (by kernel_rfl) (by kernel_rfl) (by kernel_rfl) sh31 1 (by kernel_rfl) rs31 hr31 ?_
  intro args H r H' hw h
  have hv : F31 args H = some (r, H') := h
  clear h
  unfold F31 at hv
  split at hv
  · rename_i v
    obtain ⟨l, hl, hv⟩ := Option.bind_eq_some_iff.1 hv
    split at hv
    rotate_left
    · cases hv
    rename_i hr
    have hvv := Hide.mk (Option.some.inj hv)
    clear hv
    have x0 : Ext H (H.new [.nilS, .nilS]) := (Ext.refl hw).new _
    have c0 : OwnC H (H.new [.nilS, .nilS]) H.bs.length H.c [.nilS, .nilS] := ⟨Nat.le_refl _, new_at _ _⟩
    have hq0lt : H.c < (H.new [AV.nilS, AV.nilS]).c := Nat.lt_succ_self _
    generalize hH0 : H.new [.nilS, .nilS] = H0 at *
    generalize hp0 : H.bs.length = p0 at *
    generalize hq0 : H.c = q0 at *
    have hl0 := ints_ext x0.pre hl
    obtain ⟨hv1, hv2, hvo⟩ := ints_cell hl0
    have ht0 : Tape (H0.new [v, .int .i64 0]) H0.bs.length H0.c v l 0 := ⟨new_at _ _, ints_ext (Pre.new (Pre.refl _) _) hl0, hvo, Nat.zero_le _, hr⟩
    have hE0 : Ext H0 (H0.new [v, .int .i64 0]) := (Ext.refl x0.wf).new _
    have hbx : abox (.agg [v, .int .i64 0]) H0 = some (.ptr H0.bs.length H0.c 0, H0.new [v, .int .i64 0]) := by
      unfold abox; rw [if_pos (by simp [AV.cells, hv2]; rfl)]; rfl
    refine ⟨rfl, go ?_⟩
    unfold c31
    simp only [argSl]
    refine goSeq (goReg ?_)
    iterate 3 (apply goOp; (· (simp [hH0, hp0, hq0]; try exact rfl)); (· exact rfl))
    refine goNil (goSeqN (goSeq (goReg ?_)))
    iterate 4 (apply goOp; (· (simp [hv1, hbx]; try exact rfl)); (· exact rfl))
    refine goNil (goSeqN (goSeq (goReg ?_)))
    have hlt : H0.bs.length < (H0.new [v, .int .i64 0]).bs.length := by rw [new_len]; omega
    have hbl : H0.bs.length ≤ H0.bs.length := Nat.le_refl _
    have hver1 : H0.c < (H0.new [v, .int .i64 0]).c := by rw [new_c]; omega
    have hvH : H0.c ≤ H0.c := Nat.le_refl _
    generalize H0.new [v, .int .i64 0] = H1 at *
    generalize hb : H0.bs.length = b at hbl hlt ht0 hvo ⊢
    generalize hver0 : H0.c = ver at ht0 hver1 hvH hq0lt ⊢
    clear hbx hv1 hv2 hvo
    refine goLits7 fun v0 v1 v2 v3 v4 v5 v6 HL hL => ?_
    have hE1 : Ext H1 HL := by have := litH_ext seven hE0.wf; rwa [hL] at this
    obtain ⟨hk0, hk1⟩ := next_in hr 0 7 (by omega)
    obtain ⟨k, hk⟩ : ∃ k : Nat, nextOf l 0 7 = k := ⟨(nextOf l 0 7).toNat, by omega⟩
    obtain ⟨m, mb, mv, hsz, hm, hmat, hmb, hmv, hmv2⟩ := litH_rep seven hE0.wf k (by simp [seven]; omega)
    rw [hL] at hsz hmat hmv2
    have hmem : m ∈ seven := List.mem_of_getElem? hm
    have hM : mdM l = m := by simp only [mdM, hk, Int.toNat_natCast, List.getD_eq_getElem?_getD, hm, Option.getD_some]
    have hml := seven_len m hmem
    have hvs : HL.bs.length ≠ b := by have := Pre.le hE1.pre; omega
    have ht1 : Tape (HL.new [v0, v1, v2, v3, v4, v5, v6]) b ver v l 0 := ht0.ext (hE1.new _).pre
    have hE2 : Ext H0 (HL.new [v0, v1, v2, v3, v4, v5, v6]) := hE0.trans (hE1.new _)
    have hm1 : (HL.new [v0, v1, v2, v3, v4, v5, v6]).at mb mv = some ⟨mv, m.map (.int .i64), true, true⟩ := at_new hmat _
    have e16 := F16_at ht1 7
    have hix : aidx T 26 (.sl HL.bs.length HL.c 0 7 1 true) (.int .i64 k) = some (.ptr HL.bs.length HL.c k) := by
      rw [aidx26]; simp only [aidxS]; rw [if_pos ⟨trivial, by omega, by omega⟩]; simp
    have hld : aload T 22 (.ptr HL.bs.length HL.c k) (tapePut (HL.new [v0, v1, v2, v3, v4, v5, v6]) b ver v (nextAt l 0 7)) = some (.sl mb mv 0 m.length 1 true) := by
      have := at_put (H := HL.new [v0, v1, v2, v3, v4, v5, v6]) (ver := HL.c) (k := ⟨ver, [v, .int .i64 (nextAt l 0 7)], true, true⟩) hvs
      simp only [aload, T22, tapePut, this, new_at]
      exact hsz
    rw [hk] at e16
    have hmver : mv ≠ ver := by omega
    have hm2 := Keeps.tape (a' := nextAt l 0 7) ht1 hmver _ hm1
    have ht2 : Tape (tapePut (HL.new [v0, v1, v2, v3, v4, v5, v6]) b ver v (nextAt l 0 7)) b ver v l (nextAt l 0 7) := ht1.put (nextAt_le (Nat.zero_le _))
    have hE3 : Ext H0 (tapePut (HL.new [v0, v1, v2, v3, v4, v5, v6]) b ver v (nextAt l 0 7)) := hE2.tapeN (by omega) ht1
    have hver2 : mv < (tapePut (HL.new [v0, v1, v2, v3, v4, v5, v6]) b ver v (nextAt l 0 7)).c := by
      show mv < HL.c + 1
      have : mv < HL.c := hmv2
      omega
    replace hm1 := Hide.mk hm1
    replace hm2 := Hide.mk hm2
    replace ht1 := Hide.mk ht1
    replace ht2 := Hide.mk ht2
    replace hE2 := Hide.mk hE2
    replace hE3 := Hide.mk hE3
    replace hmem := Hide.mk hmem
    replace hver2 := Hide.mk hver2
    replace hr := Hide.mk hr
    replace x0 := Hide.mk x0
    replace c0 := Hide.mk c0
    replace hM := Hide.mk hM
    replace hmat := Hide.mk hmat
    clear hE0 hE1 ht0 hL hm hsz hl0 hH0 hp0
    repeat' (first | apply goSeq | apply goReg | apply goSeqN | apply goSeqR | apply goSkip | apply goRet | apply goNil | apply goBlock | apply goExit | apply goBlkN | apply goBlkR | apply goBlkE | apply goSeqE | apply goLoopR | apply goLoopE | (apply goOp; (· (simp [*]; try exact rfl)); (· exact rfl)) | (apply goOp0; (· (simp [*]; try exact rfl)); (· exact rfl)) | (apply goYes; (· (simp [*]; done)); (· (simp [*]; try exact rfl)); (· exact rfl)) | (apply goNo; (· (simp [*]; done))) | (apply goNoU; (· (simp; exact rfl))) | (apply goIfT; (· (simp [*]; done))) | (apply goIfF; (· (simp [*]; done))) | (apply goIf; (· (simp; exact rfl)); (· with_reducible exact rfl)) | (apply goSplit; (· (simp; exact rfl)); (· with_reducible exact rfl)) | (apply goIfQ; (· (simp; exact rfl)); (· exact rfl)) | (apply goSplitQ; (· (simp; exact rfl)); (· exact rfl)) | (apply goBlkX; (· rfl)) | intro _)
    have hmv2 : mv < HL.c := hmv2
    have hr := hr.out
    have hm2 := hm2.out
    have hver2 := hver2.out
    clear hv
    have hverG : ver < (tapePut (HL.new [v0, v1, v2, v3, v4, v5, v6]) b ver v (nextAt l 0 7)).c := by omega
    generalize hH2 : tapePut (HL.new [v0, v1, v2, v3, v4, v5, v6]) b ver v (nextAt l 0 7) = H2 at hm2 ht2 hE3 hver2 hverG ⊢
    clear hH2 hld hix e16 ht1 hE2 hm1 hmat
    -- the shape
    obtain ⟨hn0, hn3⟩ := next_in hr (nextAt l 0 7) 4 (by omega)
    have e17 : F17 [.ptr b ver 0] H2 = some (mkS (tapePut H2 b ver v (mdS l).2) (mdS l).1) := by
      simp only [F17]; exact tapeF_at ht2.out
    have h3 : (mdS l).1.length = (nextOf l (nextAt l 0 7) 4).toNat := shapeT_len l (nextOf l (nextAt l 0 7) 4).toNat (nextAt l (nextAt l 0 7) 4)
    have hA : (mdS l).2 ≤ l.length := shapeT_le l (nextOf l (nextAt l 0 7) 4).toNat (nextAt l (nextAt l 0 7) 4) (nextAt_le (nextAt_le (Nat.zero_le _)))
    replace h3 : (mdS l).1.length ≤ 3 := by omega
    have hmd : mdD l = dataT l (sizeOf (mdS l).1).toNat (mdS l).2 := rfl
    have hmp : mdP l = specT l (mdM l).length (mdS l).1.length (mdD l).2 (List.replicate (mdM l).length false) := rfl
    have hmt : madeTr l = .tup [.agg [trC (mdS l).1, trS (mdD l).1], trF (mdM l), trF (mdP l).1] := rfl
    rw [hM.out] at hmp hmt
    generalize mdS l = SA at *
    obtain ⟨S, A2⟩ := SA
    simp only at e17 h3 hA hmd hmp hmt
    have tw := ht2.out.wf (a' := A2) hE3.out.wf
    have ht3 := (ht2.out.put hA).ext (mkS_ext tw S).pre
    have hE4 := (hE3.out.tapeN (a' := A2) (by omega) ht2.out).trans (mkS_ext tw S)
    have ho3 := mkS_own (tapePut H2 b ver v A2) S
    have his3 := ints_of_own ho3 (by omega)
    have hm3 := (mkS_ext tw S).pre.at (Keeps.tape (a' := A2) ht2.out hmver _ hm2)
    have hc3 : H2.c ≤ (mkS (tapePut H2 b ver v A2) S).2.c := (mkS_ext tw S).c
    generalize hr3 : mkS (tapePut H2 b ver v A2) S = r3 at *
    obtain ⟨sv, H3⟩ := r3
    simp only at ht3 hE4 ho3 his3 hm3 hc3
    -- the tensor
    have hsz := sizeOf_le S
    have e80 : F80 [.ptr b ver 0, sv] H3 = some (mk (.agg [trC S, trS (mdD l).1]) (tapePut H3 b ver v (mdD l).2)) := by
      show (ints H3 sv).bind _ = _
      rw [his3, Option.bind_some, if_pos (by omega), hmd]
      exact tapeF_at ht3
    have hDl : (mdD l).1.length ≤ 4096 := by rw [hmd, dataT_len]; omega
    have hA3 : (mdD l).2 ≤ l.length := by rw [hmd]; exact dataT_le _ _ hA
    generalize mdD l = DA at *
    obtain ⟨D, A3⟩ := DA
    simp only at e80 hDl hA3 hmp hmt
    have tw3 := ht3.wf (a' := A3) hE4.wf
    obtain ⟨bs, r1, f1, x1, t1⟩ := mk_tens (H := tapePut H3 b ver v A3) tw3 (a := trC S) (b := trS D) (s := S) (d := D) (.inr (.inr rfl)) (.inl rfl) (by omega) (by omega)
    have ht4 := (ht3.put hA3).ext x1.pre
    have hE5 := (hE4.tapeN (a' := A3) (by omega) ht3).trans x1
    have hm4 := x1.pre.at (Keeps.tape (a' := A3) ht3 hmver _ hm3)
    have hc4 : H3.c ≤ (mk (.agg [trC S, trS D]) (tapePut H3 b ver v A3)).2.c := x1.c
    replace f1 : Fresh H3.c (mk (.agg [trC S, trS D]) (tapePut H3 b ver v A3)).2.c bs := f1
    replace r1 : Rep H3.c (mk (.agg [trC S, trS D]) (tapePut H3 b ver v A3)).2 (.agg [trC S, trS D]) (mk (.agg [trC S, trS D]) (tapePut H3 b ver v A3)).1 bs := r1
    generalize hr4 : mk (.agg [trC S, trS D]) (tapePut H3 b ver v A3) = r4 at *
    obtain ⟨tv, H4⟩ := r4
    simp only at ht4 hE5 hm4 hc4 f1 r1 t1
    obtain ⟨shv, dav, b1, b2, rfl, rs1, rd1, rfl⟩ := rep_agg2.1 r1
    obtain ⟨_, _, hag, hsi, hdi⟩ := tens_some t1
    cases hag
    have hone := ints_one' hsi
    have hone2 := ints_one' hdi
    -- its cell
    have a5 := new_at H4 [.nilS, .nilS]
    have x5 : Ext H4 (H4.new [.nilS, .nilS]) := (Ext.refl hE5.wf).new _
    have st5 := st40 (x := shv) (y := dav) a5 hone hone2
    have hc5 : H4.c < (H4.new [AV.nilS, AV.nilS]).c := Nat.lt_succ_self _
    have x6 : Ext H4 ((H4.new [.nilS, .nilS]).put H4.bs.length ⟨H4.c, [shv, dav], true, true⟩) := put_ext hE5.wf x5 (Nat.le_refl _) a5
    have a6 : ((H4.new [.nilS, .nilS]).put H4.bs.length ⟨H4.c, [shv, dav], true, true⟩).at H4.bs.length H4.c = some ⟨H4.c, [shv, dav], true, true⟩ := at_put_same a5 rfl
    have hc6 : ((H4.new [AV.nilS, AV.nilS]).put H4.bs.length ⟨H4.c, [shv, dav], true, true⟩).c = (H4.new [AV.nilS, AV.nilS]).c := rfl
    generalize hH5 : H4.new [.nilS, .nilS] = H5 at *
    generalize hp5 : H4.bs.length = p5 at *
    generalize hH6 : H5.put p5 ⟨H4.c, [shv, dav], true, true⟩ = H6 at *
    have hE6 := hE5.trans x6
    have ht6 := ht4.ext x6.pre
    have hm6 := x6.pre.at hm4
    have rs6 := Rep.ext x6.pre rs1
    have rd6 := Rep.ext x6.pre rd1
    have hsi6 := ints_ext x6.pre hsi
    have l40 := ld40 a6
    have l22 := ld22 a6 0
    simp only [List.getElem?_cons_zero] at l22
    have hlS := alenS_ints hsi6
    simp only [← alen22] at hlS
    have him6 : ints H6 (.sl mb mv 0 m.length 1 true) = some m := ints_of_ownF (H0 := ⟨[], 0⟩) ⟨mb, mv, rfl, Nat.zero_le _, hm6⟩ (by omega)
    have hmof : off (.sl mb mv 0 m.length 1 true) b = true := by
      have : mb ≠ b := by omega
      simpa [off] using this
    -- the spec
    have e18 : F18 [.ptr b ver 0, .sl mb mv 0 m.length 1 true, .int .i64 S.length] H6 = some (mkF (tapePut H6 b ver v (mdP l).2) (mdP l).1) := by
      rw [F18_at ht6 him6 (by omega) (by omega) hmof, hmp]
    have hPl : (mdP l).1.length ≤ 3 := by rw [hmp, specT_len]; exact h3
    generalize mdP l = PA at *
    obtain ⟨P, A4⟩ := PA
    simp only at e18 hPl hmt
    have tw6 := ht6.wf (a' := A4) hE6.wf
    have ho7 := mkF_own (tapePut H6 b ver v A4) P
    have hx7 := mkF_ext tw6 P
    have hk7 : ∀ b' ver', ver' ≠ ver → Keeps H6 (mkF (tapePut H6 b ver v A4) P).2 b' ver' := fun b' ver' h => (Keeps.tape ht6 h).trans (Keeps.pre hx7.pre b' ver')
    have hE7 := (hE6.tapeN (a' := A4) (by omega) ht6).trans hx7
    have hc7 : H6.c < (mkF (tapePut H6 b ver v A4) P).2.c := Nat.lt_succ_self _
    generalize hr7 : mkF (tapePut H6 b ver v A4) P = r7 at *
    obtain ⟨pv, H7⟩ := r7
    simp only at ho7 hk7 hE7 hc7
    obtain ⟨b7, r7, f7⟩ := OwnF.repF hE7.wf ho7
    have a7 := hk7 p5 H4.c (by omega) _ a6
    have l40b := ld40 a7
    have c7 : OwnC H H7 p0 q0 [.nilS, .nilS] := (c0.out.ext hE7.pre)
    have st8 := st40 (x := shv) (y := dav) c7.at' hone hone2
    have hk8 : ∀ b' ver', ver' ≠ q0 → Keeps H7 (H7.put p0 ⟨q0, [shv, dav], true, true⟩) b' ver' := fun b' ver' h => Keeps.put c7.at' h
    have lr := ld40 (at_put_same (k' := ⟨q0, [shv, dav], true, true⟩) c7.at' rfl)
    have hx8 := put_ext (cs := [shv, dav]) hw (x0.out.trans hE7) (by omega) c7.at'
    replace f7 : Fresh H6.c H7.c b7 := f7
    replace r7 : Rep H6.c H7 (trF P) pv b7 := r7
    clear ht2 hE3 ht3 hE4 ho3 his3 hm3 tw tw3 x1 ht4 hE5 hm4 r1 t1 rs1 rd1 hsi hdi a5 x5 x6 hE6 ht6 hsi6 him6 hmof tw6 ho7 hx7 hE7 c7 hn0 hn3 hk0 hk1 hk hH6
    replace f1 := Hide.mk f1
    replace f7 := Hide.mk f7
    replace r7 := Hide.mk r7
    replace rs6 := Hide.mk rs6
    replace rd6 := Hide.mk rd6
    replace hm6 := Hide.mk hm6
    replace hk7 := Hide.mk hk7
    replace hk8 := Hide.mk hk8
    replace hx8 := Hide.mk hx8
    replace hmt := Hide.mk hmt
    repeat' (first | apply goSeq | apply goReg | apply goSeqN | apply goSeqR | apply goSkip | apply goRet | apply goNil | apply goBlock | apply goExit | apply goBlkN | apply goBlkR | apply goBlkE | apply goSeqE | apply goLoopR | apply goLoopE | (apply goOp; (· (simp [*]; try exact rfl)); (· exact rfl)) | (apply goOp0; (· (simp [*]; try exact rfl)); (· exact rfl)) | (apply goYes; (· (simp [*]; done)); (· (simp [*]; try exact rfl)); (· exact rfl)) | (apply goNo; (· (simp [*]; done))) | (apply goNoU; (· (simp; exact rfl))) | (apply goIfT; (· (simp [*]; done))) | (apply goIfF; (· (simp [*]; done))) | (apply goIf; (· (simp; exact rfl)); (· with_reducible exact rfl)) | (apply goSplit; (· (simp; exact rfl)); (· with_reducible exact rfl)) | (apply goIfQ; (· (simp; exact rfl)); (· exact rfl)) | (apply goSplitQ; (· (simp; exact rfl)); (· exact rfl)) | (apply goBlkX; (· rfl)) | intro _)
    apply goDrw
    iterate 8 (apply goTOp; (· (simp [*]; try exact rfl)); (· exact rfl))
    apply goTOp0; (· (simp [*]; try exact rfl)); (· exact rfl)
    iterate 2 (apply goTOp; (· (simp [*]; try exact rfl)); (· exact rfl))
    refine goTNil (by simp [again, XG_none, get, l40, l40b]) ?_
    repeat' (first | apply goSeq | apply goReg | apply goSeqN | apply goSeqR | apply goSkip | apply goRet | apply goNil | apply goBlock | apply goExit | apply goBlkN | apply goBlkR | apply goBlkE | apply goSeqE | apply goLoopR | apply goLoopE | (apply goOp; (· (simp [*]; try exact rfl)); (· exact rfl)) | (apply goOp0; (· (simp [*]; try exact rfl)); (· exact rfl)) | (apply goYes; (· (simp [*]; done)); (· (simp [*]; try exact rfl)); (· exact rfl)) | (apply goNo; (· (simp [*]; done))) | (apply goNoU; (· (simp; exact rfl))) | (apply goIfT; (· (simp [*]; done))) | (apply goIfF; (· (simp [*]; done))) | (apply goIf; (· (simp; exact rfl)); (· with_reducible exact rfl)) | (apply goSplit; (· (simp; exact rfl)); (· with_reducible exact rfl)) | (apply goIfQ; (· (simp; exact rfl)); (· exact rfl)) | (apply goSplitQ; (· (simp; exact rfl)); (· exact rfl)) | (apply goBlkX; (· rfl)) | intro _)
    have hf1 := f1.out
    have hf7 := f7.out
    have hk12 : ∀ p ∈ b1 ++ b2, p.2 ≠ ver ∧ p.2 ≠ q0 := fun p hp => by have := (hf1.2 p hp).1; omega
    have hk77 : ∀ p ∈ b7, p.2 ≠ q0 := fun p hp => by have := (hf7.2 p hp).1; omega
    have hkk : ∀ b' ver', ver' ≠ ver → ver' ≠ q0 → Keeps H6 (H7.put p0 ⟨q0, [shv, dav], true, true⟩) b' ver' := fun b' ver' h1 h2 => (hk7.out b' ver' h1).trans (hk8.out b' ver' h2)
    have hm8 : Rep H.c (H7.put p0 ⟨q0, [shv, dav], true, true⟩) (trF m) (.sl mb mv 0 m.length 1 true) [(mb, mv)] := rep_F.2 ⟨mb, mv, rfl, by omega, hkk mb mv hmver (by omega) _ hm6.out, rfl⟩
    have ht8 : Rep H.c (H7.put p0 ⟨q0, [shv, dav], true, true⟩) (.agg [trC S, trS D]) (.agg [shv, dav]) (b1 ++ b2) :=
      rep_agg2.2 ⟨shv, dav, b1, b2, rfl, rep_down _ (c0 := 0) (okT_C 0 S) (Nat.zero_le _) (by omega) (Rep.keep (trC S) (fun p hp => hkk p.1 p.2 (hk12 p (by simp [hp])).1 (hk12 p (by simp [hp])).2) rs6.out), rep_down _ (c0 := 0) (okT_S 0 D) (Nat.zero_le _) (by omega) (Rep.keep (trS D) (fun p hp => hkk p.1 p.2 (hk12 p (by simp [hp])).1 (hk12 p (by simp [hp])).2) rd6.out), rfl⟩
    have hp8 : Rep H.c (H7.put p0 ⟨q0, [shv, dav], true, true⟩) (trF P) pv b7 := rep_down _ (c0 := 0) (okT_F 0 P) (Nat.zero_le _) (by omega) (Rep.keep (trF P) (fun p hp => hk8.out p.1 p.2 (hk77 p hp)) r7.out)
    have hall : Fresh H.c H7.c ((b1 ++ b2) ++ ([(mb, mv)] ++ b7)) := by
      have g1 : Fresh H.c H2.c [(mb, mv)] := Fresh.one (by omega) hver2
      have g2 := g1.app (hf1.wide hc3 (Nat.le_refl _)) (by omega) (by omega)
      have g3 := g2.app (hf7.wide (by omega : H4.c ≤ H6.c) (Nat.le_refl _)) (by omega) (by omega)
      refine g3.perm ?_
      rw [← List.append_assoc (b1 ++ b2)]
      exact List.Perm.append_right b7 List.perm_append_comm
    exact goEndR (vs := [.agg [shv, dav], .sl mb mv 0 m.length 1 true, pv]) (bs := (b1 ++ b2) ++ ([(mb, mv)] ++ b7)) (d := H7.c) (t := .tup [.agg [trC S, trS D], trF m, trF P]) hw hx8.out.pre (rep_tup3 ht8 hm8 hp8) hall (by simp) (by simp [rs31, lr]) rfl (hmt.out ▸ hvv.out)
  · cases hv
/- Walks: some of chapter 17's runs. -/
section
variable {E : Env} {s : Sl} {H : Hp} {k : Ct} {l : List Co}
theorem lit_new (hw : Wf H) (m : List Int) (hm : m.length ≤ 1152921504606846976) : Ext H (H.new (m.map (.int .i64))) ∧ ints (H.new (m.map (.int .i64))) (.sl H.bs.length H.c 0 m.length 1 true) = some m :=
  ⟨(Ext.refl hw).new _, ints_of_ownF (H0 := H) ⟨_, _, rfl, Nat.le_refl _, new_at _ _⟩ hm⟩
/-- A list of one number that stands in the text. -/
theorem goLit1 {d : Nat} {a : Int} (hw : Wf H) (h : ∀ v A, Ext H A → ints A v = some [a] → notMt v = true → YL E T false l ((d, v) :: s) A k) : YL E T false (⟨some d, .buildSlice 22 1 #[(0, .const (.int .i64 a))], none⟩ :: l) s H k := by
  obtain ⟨h1, h2⟩ := lit_new hw [a] (by simp)
  exact goOp (xdo_bs22_1 a) rfl (h _ _ h1 h2 rfl)
theorem xdo_bs38_3 {sh : Bool} (a b c : Int) : xdo E T sh (.buildSlice 38 3 #[(0, .const (.int .i64 a)), (1, .const (.int .i64 b)), (2, .const (.int .i64 c))]) s H = some (.sl H.bs.length H.c 0 3 1 true, H.new ([a, b, c].map (.int .i64))) := by
  simp [xdo, aop, D38, T2, rep, afill, setAll, AV.cells, AV.one]
theorem goLit3 {d : Nat} {a b c : Int} (hw : Wf H) (h : ∀ v A, Ext H A → ints A v = some [a, b, c] → notMt v = true → YL E T false l ((d, v) :: s) A k) : YL E T false (⟨some d, .buildSlice 38 3 #[(0, .const (.int .i64 a)), (1, .const (.int .i64 b)), (2, .const (.int .i64 c))], none⟩ :: l) s H k := by
  obtain ⟨h1, h2⟩ := lit_new hw [a, b, c] (by simp)
  exact goOp (xdo_bs38_3 a b c) rfl (h _ _ h1 h2 rfl)
/-- A cell of a tensor's own is made and filled. -/
theorem goCell {d : Nat} {o : Operand} {x y : AV} (hw : Wf H) (hx : x.one = true) (hy : y.one = true) (he : ∀ u, ev ((d, u) :: s) o = .agg [x, y]) (hd : ∀ u, ev ((d, u) :: s) (.tmp d) = u)
    (h : ∀ b ver A, Ext H A → A.at b ver = some ⟨ver, [x, y], true, true⟩ → H.c ≤ ver → ver < A.c → (∀ b' ver', Keeps H A b' ver') → YL E T false l ((d, .ptr b ver 0) :: s) A k) :
    YL E T false (⟨some d, .alloc 40, none⟩ :: ⟨none, .store 40 (.tmp d) o, none⟩ :: l) s H k := by
  have a0 := new_at H [.nilS, .nilS]
  have x0 : Ext H (H.new [.nilS, .nilS]) := (Ext.refl hw).new _
  have x1 := put_ext (cs := [x, y]) hw x0 (Nat.le_refl _) a0
  refine goOp xdo_alloc40 rfl (goOp0 (v := .bad) (H' := (H.new [.nilS, .nilS]).put H.bs.length ⟨H.c, [x, y], true, true⟩) (by simp [he, hd]; exact rfl) (by rw [st40 a0 hx hy]; rfl) (h _ _ _ x1 (at_put_same a0 rfl) (Nat.le_refl _) (Nat.lt_succ_self _) fun b' ver' => Keeps.pre x1.pre b' ver'))
end
/-- What All hands back, as lists. -/
noncomputable def allL (p : List Int × List Int) (sz sp : List Int) : List TS := (List.range (devs sz).toNat).map fun (d : Nat) => (sizeL p.1 sz sp d, partD p sz sp d)
theorem allL_len (p : List Int × List Int) (sz sp : List Int) : (allL p sz sp).length = (devs sz).toNat := by simp [allL]
theorem allL_at (p : List Int × List Int) (sz sp : List Int) {j : Nat} (h : j < (devs sz).toNat) : tth (allL p sz sp) j = (sizeL p.1 sz sp j, partD p sz sp j) := by
  simp [tth, allL, List.getD_eq_getElem?_getD, h]
theorem all_rep {H : Hp} (hw : Wf H) {p : List Int × List Int} {sz sp : List Int} (hm : mayL p sz sp = 0) : ∃ v H1, mk (allT p sz sp) H = (.tup [v, .int .i64 0], H1) ∧ Ext H H1 ∧ tensL H1 v = some (allL p sz sp) := by
  have h8 := devs_le sz
  have hres : allT p sz sp = .tup [trTs (partsN p sz sp (devs sz).toNat), .at (.int .i64 0)] := by simp [allT, hm]
  obtain ⟨bs, h1, _, h3⟩ := mk_rep (trTs (partsN p sz sp (devs sz).toNat)) (c0 := 0) hw (Nat.zero_le _) (okT_Ts 0 p sz sp _)
  refine ⟨_, _, by rw [hres, mk_tupI], h3, ?_⟩
  refine rep_tensL h1 (by rw [partsN_len, allL_len]) (by rw [allL_len]; omega) fun j hj => ?_
  rw [allL_len] at hj
  rw [allL_at p sz sp hj]
  refine ⟨trS (sizeL p.1 sz sp j), trF (partD p sz sp j), by simp [partsN, hj], .inl rfl, .inr (.inl rfl), ?_, ?_⟩
  · have := sizeL_len p.1 sz sp j
    show (sizeL p.1 sz sp j).length ≤ _
    omega
  · have := partD_len p sz sp j
    show (partD p sz sp j).length ≤ _
    omega
/-! ### the numbers -/
theorem kn_may (d : Int) (h0 : 0 ≤ d) (h1 : d < 2) : mayCut [3] [2] [0] d := ⟨by decide, by decide, h0, by rw [known_devs]; exact h1⟩
theorem kn_may1 (d : Int) (h0 : 0 ≤ d) (h1 : d < 2) : mayCut [3] [2] [-1] d := ⟨by decide, by decide, h0, by rw [known_devs]; exact h1⟩
theorem kn_s0 : sizeL [3] [2] [0] 0 = [2] := by unfold sizeL cutsL; rw [if_pos (kn_may 0 (by decide) (by decide))]; decide
theorem kn_s1 : sizeL [3] [2] [0] 1 = [1] := by unfold sizeL cutsL; rw [if_pos (kn_may 1 (by decide) (by decide))]; decide
theorem kn_f0 : fromL [3] [2] [0] 0 = [0] := by unfold fromL cutsL; rw [if_pos (kn_may 0 (by decide) (by decide))]; decide
theorem kn_f1 : fromL [3] [2] [0] 1 = [2] := by unfold fromL cutsL; rw [if_pos (kn_may 1 (by decide) (by decide))]; decide
theorem kn_t0 : sizeL [3] [2] [-1] 0 = [3] := by unfold sizeL cutsL; rw [if_pos (kn_may1 0 (by decide) (by decide))]; decide
theorem kn_t1 : sizeL [3] [2] [-1] 1 = [3] := by unfold sizeL cutsL; rw [if_pos (kn_may1 1 (by decide) (by decide))]; decide
theorem kn_all : allL ([3], [1, 2, 3]) [2] [0] = [([2], [1, 2]), ([1], [3])] := by
  have hd : (devs [2]).toNat = 2 := by decide
  have h0 : partD ([3], [1, 2, 3]) [2] [0] 0 = [1, 2] := by unfold partD; simp only [kn_s0, kn_f0]; decide
  have h1 : partD ([3], [1, 2, 3]) [2] [0] 1 = [3] := by unfold partD; simp only [kn_s1, kn_f1]; decide
  unfold allL
  rw [hd]
  simp [List.range_succ, kn_s0, kn_s1, h0, h1]
theorem kn_join (sv : AV) : joinT sv [([3], [1, 2, 3]), ([3], [1, 2, 4])] [3] [2] [-1] = zeroT 25 := by
  unfold joinT
  rw [if_pos (by decide), if_pos (by decide), if_pos, if_neg (by decide)]
  rw [allN_iff]
  intro j hj
  simp only [List.length_cons, List.length_nil] at hj
  unfold ok1
  rcases (by omega : j = 0 ∨ j = 1) with rfl | rfl
  · rw [show ((0 : Nat) : Int) = 0 from rfl, kn_t0]; decide
  · rw [show ((1 : Nat) : Int) = 1 from rfl, kn_t1]; decide
def bs45_2 (a b : AV) (H : Hp) : Option (AV × Hp) := (afill (fun j => some (j * 2, 2)) [.nilS, .nilS, .nilS, .nilS] [(0, a), (1, b)]).map fun cs => (.sl H.bs.length H.c 0 2 2 true, H.new cs)
theorem bs45_2_agg {x y z u : AV} (H : Hp) (hx : x.one = true) (hy : y.one = true) (hz : z.one = true) (hu : u.one = true) : bs45_2 (.agg [x, y]) (.agg [z, u]) H = some (.sl H.bs.length H.c 0 2 2 true, H.new [x, y, z, u]) := by
  simp [bs45_2, afill, AV.cells, hx, hy, hz, hu, setAll]
theorem xdo_bs45_2 {E : Env} {sh : Bool} {s : Sl} {H : Hp} (x y : Operand) : xdo E T sh (.buildSlice 45 2 #[(0, x), (1, y)]) s H = bs45_2 (ev s x) (ev s y) H := by
  simp [xdo, aop, D45, T40, rep, bs45_2]
theorem tensL_2 {H A : Hp} {x y z u : AV} {p q : TS} (hA : A = H.new [x, y, z, u]) (h1 : tens A (.agg [x, y]) = some p) (h2 : tens A (.agg [z, u]) = some q) : tensL A (.sl H.bs.length H.c 0 2 2 true) = some [p, q] := by
  subst hA
  simp only [tensL, new_at, Option.bind_some]
  simp [tensG, h1, h2]
def F36 (args : List AV) (H : Hp) : Option AV := match args with
  | [] => some (.bool true)
  | _ => none
set_option maxHeartbeats 2000000 in
theorem snd36 : Sound Try.prog 36 (FSem.pure F36).run := by
  refine sound_of hT (EOK_cons snd37 (EOK_cons snd38 (EOK_nil _))) mixed A36 Try.func36 hb36 (by kernel_rfl) (by kernel_rfl) (by kernel_rfl) (by kernel_rfl) sh36 0 (by kernel_rfl) rs36 hr36 ?_
  intro args H r H' hw h
  obtain ⟨rfl, hv⟩ := pureAt h
  clear h
  unfold F36 at hv
  split at hv
  rotate_left
  · cases hv
  cases hv
  refine ⟨rfl, go ?_⟩
  unfold c36
  simp only [argSl]
  refine goSeq (goReg (goOp rfl rfl (goNil (goSeqN ?_))))
  refine goSeq (goReg ?_)
  refine goLit1 hw fun v6 A1 x1 i6 m6 => ?_
  refine goLit3 x1.wf fun v7 A2 x2 i7 m7 => ?_
  have i6' := ints_ext x2.pre i6
  have hb := bld40_one (ints_one' i6') (ints_one' i7)
  apply goOp; (· (simp [hb]; exact rfl)); (· exact rfl)
  refine goCell x2.wf (ints_one' i6') (ints_one' i7) (fun u => rfl) (fun u => rfl) fun b0 q0 A3 x3 a3 u1 u2 u3 => ?_
  have ht3 := tens_of (ints_ext x3.pre i6') (ints_ext x3.pre i7)
  have l3 := ld40 a3
  refine goNil (goSeqN (goSeq (goReg ?_)))
  apply goOp; (· (simp [l3]; exact rfl)); (· exact rfl)
  refine goLit1 x3.wf fun v11 A4 x4 i11 _ => ?_
  refine goLit1 x4.wf fun v12 A5 x5 i12 m12 => ?_
  have ht5 := tens_ext (x4.pre.trans x5.pre) ht3
  obtain ⟨lv, A6, hal, x6, hL⟩ := all_rep (H := A5) x5.wf (p := ([3], [1, 2, 3])) (sz := [2]) (sp := [0]) (by decide)
  rw [kn_all] at hL
  have e37 : F37 [.agg [v6, v7], v11, v12] A5 = some (.tup [lv, .int .i64 0], A6) := by
    show (tens A5 _).bind _ = _
    rw [ht5, Option.bind_some, ints_ext x5.pre i11, Option.bind_some, i12, Option.map_some, hal]
  iterate 6 (apply goOp; (· (simp [e37]; exact rfl)); (· exact rfl))
  refine goNil (goSeqN (goSeq (goReg ?_)))
  have l6 := ld40 ((x4.pre.trans (x5.pre.trans x6.pre)).at a3)
  apply goOp; (· (simp [l6]; exact rfl)); (· exact rfl)
  refine goLit1 x6.wf fun v18 A7 x7 i18 _ => ?_
  refine goLit3 x7.wf fun v19 A8 x8 i19 _ => ?_
  have i18' := ints_ext x8.pre i18
  have hb2 := bld40_one (ints_one' i18') (ints_one' i19)
  apply goOp; (· (simp [hb2]; exact rfl)); (· exact rfl)
  have hb3 := bs45_2_agg A8 (ints_one' i6') (ints_one' i7) (ints_one' i18') (ints_one' i19)
  refine goOp (v := .sl A8.bs.length A8.c 0 2 2 true) (H' := A8.new [v6, v7, v18, v19]) (xdo_bs45_2 _ _) hb3 ?_
  have x9 : Ext A8 (A8.new [v6, v7, v18, v19]) := (Ext.refl x8.wf).new _
  have hxx := ((((x4.pre.trans x5.pre).trans x6.pre).trans x7.pre).trans x8.pre).trans x9.pre
  have hL2 : tensL (A8.new [v6, v7, v18, v19]) (.sl A8.bs.length A8.c 0 2 2 true) = some [([3], [1, 2, 3]), ([3], [1, 2, 4])] :=
    tensL_2 rfl (tens_ext hxx ht3) (tens_of (ints_ext x9.pre i18') (ints_ext x9.pre i19))
  generalize A8.new [v6, v7, v18, v19] = A9 at *
  generalize AV.sl A8.bs.length A8.c 0 2 2 true = jl at *
  refine goLit1 x9.wf fun v22 A10 x10 i22 m22 => ?_
  refine goLit1 x10.wf fun v23 A11 x11 i23 _ => ?_
  refine goLit1 x11.wf fun v24 A12 x12 i24 _ => ?_
  have e38 : F38 [jl, v22, v23, v24] A12 = some (.tup [.agg [.nilS, .nilS], .int .i64 25], A12) := by
    show (tensL A12 _).bind _ = _
    rw [tensL_ext ((x10.pre.trans x11.pre).trans x12.pre) hL2, Option.bind_some, ints_ext (x11.pre.trans x12.pre) i22, Option.bind_some, ints_ext x12.pre i23, Option.bind_some, i24, Option.bind_some, if_pos ⟨m22, by simp⟩, kn_join, mk_zero]
  iterate 4 (apply goOp; (· (simp [e38]; exact rfl)); (· exact rfl))
  refine goCell x12.wf rfl rfl (fun u => rfl) (fun u => rfl) fun b4 q4 A13 x13 a13 u4 u5 u6 => ?_
  apply goOp; (· (simp; exact rfl)); (· exact rfl)
  refine goNil (goSeqN (goSeq (goReg ?_)))
  have hp : Pre A6 A13 := (((((x7.pre.trans x8.pre).trans x9.pre).trans x10.pre).trans x11.pre).trans x12.pre).trans x13.pre
  have hPA : Pre H' A13 := ((((((x1.pre.trans x2.pre).trans x3.pre).trans x4.pre).trans x5.pre).trans x6.pre)).trans hp
  obtain ⟨hn, h1t, hat⟩ := tensL_at (tensL_ext hp hL)
  obtain ⟨q1, x1', y1, g1, g2, g3, b1, w1, o1, rfl, g4⟩ := hat 0 (by decide)
  obtain ⟨q2, x2', y2, h1, h2, h3, b2, w2, o2, rfl, h4⟩ := hat 1 (by decide)
  obtain ⟨_, _, hag, hx1, hy1⟩ := tens_some g3
  cases hag
  obtain ⟨_, _, hag, hx2, hy2⟩ := tens_some h3
  cases hag
  have hy1' : ints A13 y1 = some [1, 2] := hy1
  have hy2' : ints A13 y2 = some [3] := hy2
  have n1 := alenS_ints hy1'
  have n2 := alenS_ints hy2'
  have ix2 := aidxS_ints hy2' .i64 0
  have ld2 := aload_nth T2 rfl hy2' 0 (by decide) (by decide)
  simp only [← alen38] at n1 n2
  simp only [← aidx38] at ix2
  replace hn : alen T 45 lv = some (.int .i64 2) := hn
  replace n1 : alen T 38 y1 = some (.int .i64 2) := n1
  replace n2 : alen T 38 y2 = some (.int .i64 1) := n2
  replace ix2 : aidx T 38 y2 (.int .i64 0) = some (pAt y2 0) := ix2
  replace ld2 : aload T 2 (pAt y2 0) A13 = some (.int .i64 3) := ld2
  replace g1 : aidx T 45 lv (.int .i64 0) = some (.ptr b1 w1 o1) := g1
  replace h1 : aidx T 45 lv (.int .i64 1) = some (.ptr b2 w2 o2) := h1
  replace hPA := Hide.mk hPA
  have hww := Hide.mk hw
  clear h1t hx1 hx2 hw u1 u2 u3 u4 u5 u6 x1 x2 x3 x4 x5 x6 x7 x8 x9 x10 x11 x12 x13 i6 i7 i6' i11 i12 i18 i18' i19 i22 i23 i24 ht3 ht5 hL hL2 a3 a13 l3 l6 hxx hp hat hy1 hy2 g3 h3 hy1' hy2' e37 e38 hb hb2 hb3 m6 m7 m22 hal g2 h2
  repeat' (first | apply goSeq | apply goReg | apply goSeqN | apply goSeqR | apply goSkip | apply goRet | apply goNil | apply goBlock | apply goExit | apply goBlkN | apply goBlkR | apply goBlkE | apply goSeqE | apply goLoopR | apply goLoopE | (apply goOp; (· (simp [*]; try exact rfl)); (· exact rfl)) | (apply goOp0; (· (simp [*]; try exact rfl)); (· exact rfl)) | (apply goYes; (· (simp [*]; done)); (· (simp [*]; try exact rfl)); (· exact rfl)) | (apply goNo; (· (simp [*]; done))) | (apply goNoU; (· (simp; exact rfl))) | (apply goIfT; (· (simp [*]; done))) | (apply goIfF; (· (simp [*]; done))) | (apply goIf; (· (simp; exact rfl)); (· with_reducible exact rfl)) | (apply goSplit; (· (simp; exact rfl)); (· with_reducible exact rfl)) | (apply goIfQ; (· (simp; exact rfl)); (· exact rfl)) | (apply goSplitQ; (· (simp; exact rfl)); (· exact rfl)) | (apply goBlkX; (· rfl)) | intro _)
  exact goEnd hww.out hPA.out (by simp) (by simp [rs36]; exact rfl) rfl rfl
/- Plain law of SplitBack: what is parted is put together as it was. -/
theorem sameT_refl (p : TS) : sameT p p = true := by simp [sameT, sameL_refl]
/-! ### writes that are right -/
section
variable {D s fr sh dat : List Int}
theorem jd_keep {j : Nat} : ∀ (n : Nat) (E : List Int), (∀ i : Nat, i < n → 0 ≤ idxL s (addL (meshAt sh (i : Nat)) fr) ∧ idxL s (addL (meshAt sh (i : Nat)) fr) < E.length ∧ nth dat (i : Nat) = nth D (idxL s (addL (meshAt sh (i : Nat)) fr))) →
    (nth E j = nth D j ∨ ∃ i : Nat, i < n ∧ idxL s (addL (meshAt sh (i : Nat)) fr) = j) → nth (jd s fr sh dat n E) j = nth D j := by
  intro n
  induction n with
  | zero =>
    intro E _ h
    rcases h with h | ⟨i, hi, _⟩
    · exact h
    · omega
  | succ n ih =>
    intro E hg h
    obtain ⟨h0, h1, h2⟩ := hg n (by omega)
    simp only [jd]
    have hlen := jd_len s fr sh dat n E
    rw [nth_set _ _ _ _ (by omega)]
    split
    · rename_i hj
      rw [h2]
      congr 1
      omega
    · rename_i hj
      refine ih E (fun i hi => hg i (by omega)) ?_
      rcases h with h | ⟨i, hi, he⟩
      · exact .inl h
      · rcases Nat.lt_or_ge i n with hin | hin
        · exact .inr ⟨i, hin, he⟩
        · have : i = n := by omega
          subst this
          exact absurd (by omega) hj
end
theorem ja_keep {L : List TS} {D s sz sp : List Int} {j : Nat} : ∀ (n : Nat) (E : List Int), (∀ d : Nat, d < n → ∀ i : Nat, i < (tth L d).2.length → 0 ≤ idxL s (addL (meshAt (tth L d).1 (i : Nat)) (fromL s sz sp d)) ∧ idxL s (addL (meshAt (tth L d).1 (i : Nat)) (fromL s sz sp d)) < E.length ∧ nth (tth L d).2 (i : Nat) = nth D (idxL s (addL (meshAt (tth L d).1 (i : Nat)) (fromL s sz sp d)))) →
    (nth E j = nth D j ∨ ∃ d : Nat, d < n ∧ ∃ i : Nat, i < (tth L d).2.length ∧ idxL s (addL (meshAt (tth L d).1 (i : Nat)) (fromL s sz sp d)) = j) → nth (ja L s sz sp n E) j = nth D j := by
  intro n
  induction n with
  | zero =>
    intro E _ h
    rcases h with h | ⟨i, hi, _⟩
    · exact h
    · omega
  | succ n ih =>
    intro E hg h
    simp only [ja]
    have hlen := ja_len L s sz sp n E
    refine jd_keep _ _ (fun i hi => by rw [hlen]; exact hg n (by omega) i hi) ?_
    rcases h with h | ⟨d, hd, i, hi, he⟩
    · exact .inl (ih E (fun d hd => hg d (by omega)) (.inl h))
    · rcases Nat.lt_or_ge d n with hin | hin
      · exact .inl (ih E (fun d hd => hg d (by omega)) (.inr ⟨d, hin, i, hi, he⟩))
      · have : d = n := by omega
        subst this
        exact .inr ⟨i, hi, he⟩
/-- What a tensor, a mesh and a spec of a tape are. -/
structure Good (S D m P : List Int) : Prop where
  six : m ∈ six
  lens : ∀ x ∈ S, x ∈ lens
  s3 : S.length ≤ 3
  pl : P.length = S.length
  spec : specGo m.length [] P = true
  dl : D.length = (sizeOf S).toNat
section
variable {S D m P : List Int} (g : Good S D m P)
include g
theorem Good.shape : shapeOK S = true := shape_3 g.s3 g.lens
theorem Good.mesh : meshOK m = true := (six_ok m g.six).1
theorem Good.sok : specOK m P S.length = true := (may_six g.six g.lens g.s3 g.pl g.spec (d := 0) (six_ok m g.six).2.1).2.1
theorem Good.tok : tOK (S, D) = true := by
  have := g.dl
  have := sizeOf_nonneg S
  simp only [Pq.tOK, g.shape, Bool.true_and, decide_eq_true_eq]
  omega
theorem Good.may : mayL (S, D) m P = 0 := by
  unfold mayL
  rw [if_neg (by simp [g.tok]), if_neg (by simp [g.sok])]
theorem Good.ct {d : Nat} (h : (d : Int) < devs m) : mayCut S m P d := may_six g.six g.lens g.s3 g.pl g.spec h
theorem Good.dv : (devs m).toNat = devs m ∧ devs m ≤ 8 ∧ 0 < devs m := by have := six_ok m g.six; omega
theorem Good.sz7 {d : Nat} (h : (d : Int) < devs m) : (∀ x ∈ sizeL S m P d, 0 ≤ x ∧ x ≤ 7) ∧ (sizeL S m P d).length = S.length := by
  have hk : ∀ k ∈ P, k < m.length := fun k h => (spec_rng g.spec k h).2
  rw [sizeL_szs g.lens g.pl (g.ct h)]
  exact ⟨szs_rng g.six h S P g.lens hk, szs_len _ _ _ _ g.pl.symm⟩
end
theorem shape_7 {s : List Int} (h3 : s.length ≤ 3) (hr : ∀ x ∈ s, 0 ≤ x ∧ x ≤ 7) : shapeOK s = true := by
  have hp := prodW_3 h3 hr
  have key : ∀ (l : List Int) (n : Int), (∀ x ∈ l, 0 ≤ x ∧ x ≤ 7) → shapeGo n l = decide (prodW n l ≤ 4096) := by
    intro l
    induction l with
    | nil => intro n _; rfl
    | cons k l ih =>
      intro n hl
      have hk := hl k (by simp)
      simp only [shapeGo, prodW]
      rw [if_neg (by omega)]
      exact ih _ fun x hx => hl x (by simp [hx])
  unfold shapeOK
  rw [if_neg (by omega), key s 1 hr]
  simp only [decide_eq_true_eq]
  omega
section
variable {S D m P : List Int} (g : Good S D m P)
include g
theorem Good.part {d : Nat} (h : (d : Int) < devs m) : shapeOK (sizeL S m P d) = true ∧ sizeOf (sizeL S m P d) = prodW 1 (sizeL S m P d) ∧ (partD (S, D) m P d).length = sizeOf (sizeL S m P d) := by
  obtain ⟨h1, h2⟩ := g.sz7 h
  have hs := shape_7 (by have := g.s3; omega) h1
  refine ⟨hs, by simp [sizeOf, hs], ?_⟩
  unfold partD
  rw [madeL_len]
  have := sizeOf_nonneg (sizeL S m P d)
  show ((sizeOf (sizeL S m P d)).toNat : Int) = _
  omega
/-- The numbers of a part are the tensor's. -/
theorem Good.num {d i : Nat} (h : (d : Int) < devs m) (hi : i < (partD (S, D) m P d).length) : 0 ≤ idxL S (addL (meshAt (sizeL S m P d) (i : Nat)) (fromL S m P d)) ∧ idxL S (addL (meshAt (sizeL S m P d) (i : Nat)) (fromL S m P d)) < sizeOf S ∧ nth (partD (S, D) m P d) (i : Nat) = nth D (idxL S (addL (meshAt (sizeL S m P d) (i : Nat)) (fromL S m P d))) := by
  obtain ⟨h1, h2, h3⟩ := g.part h
  have hw := whole_in (g.ct h) h1 (i := (i : Int)) (by omega) (by omega)
  have hl : (addL (meshAt (sizeL S m P d) (i : Nat)) (fromL S m P d)).length = S.length := by rw [addL_len, meshAt_len, (g.sz7 h).2]
  have hin := idxL_in g.shape hl (fun j hj => (hw j hj).2)
  refine ⟨hin.1, hin.2, ?_⟩
  have e : nth (partD (S, D) m P d) (i : Nat) = atT (S, D) (addL (meshAt (sizeL S m P d) (i : Nat)) (fromL S m P d)) := by
    have hi' : i < (sizeOf (sizeL S m P d)).toNat := by rw [partD, madeL_len] at hi; exact hi
    simp [partD, madeL, nth, List.getD_eq_getElem?_getD, hi']
  have hp : plT (S, D) (addL (meshAt (sizeL S m P d) (i : Nat)) (fromL S m P d)) = idxL S (addL (meshAt (sizeL S m P d) (i : Nat)) (fromL S m P d)) := by
    unfold plT
    rw [if_pos g.tok]
  rw [e]
  unfold atT
  rw [hp, if_neg (by omega)]
theorem Good.allLen : (allL (S, D) m P).length = (devs m).toNat ∧ ∀ d : Nat, (d : Int) < devs m → tth (allL (S, D) m P) d = (sizeL S m P d, partD (S, D) m P d) :=
  ⟨allL_len _ _ _, fun d h => allL_at _ _ _ (by omega)⟩
theorem Good.jD : joinD (allL (S, D) m P) S m P = D := by
  obtain ⟨hd1, hd2, hd3⟩ := g.dv
  obtain ⟨hal, hat⟩ := g.allLen
  have hD := g.dl
  have hn := sizeOf_nonneg S
  have hlen := ja_len (allL (S, D) m P) S m P (allL (S, D) m P).length (List.replicate (sizeOf S).toNat 0)
  unfold Pq.joinD
  refine list_nth (by rw [hlen]; simp [hD]) fun j hj => ?_
  rw [hlen] at hj
  simp only [List.length_replicate] at hj
  refine ja_keep _ _ (fun d hd i hi => ?_) (.inr ?_)
  · rw [hat d (by omega)] at hi ⊢
    obtain ⟨h1, h2, h3⟩ := g.num (by omega) hi
    exact ⟨h1, by simp; omega, h3⟩
  · have ha := place_in g.shape (i := (j : Int)) (by omega) (by omega)
    obtain ⟨hc, hcov⟩ := cover (a := meshAt S j) g.shape g.sok ha
    generalize ofL m (coord S m P (meshAt S j)) = dd at hc hcov
    obtain ⟨d, rfl⟩ : ∃ d : Nat, dd = d := ⟨dd.toNat, by have := hc.2.2.1; omega⟩
    have hdv := hc.2.2.2
    obtain ⟨p1, p2, p3⟩ := g.part hdv
    obtain ⟨q1, q2, q3⟩ := part_rng hc
    refine ⟨d, by omega, ?_⟩
    rw [hat d hdv]
    -- the place in the part
    let b : List Int := (List.range S.length).map fun (i : Nat) => nth (meshAt S j) i - nth (fromL S m P d) i
    have hbl : b.length = (sizeL S m P d).length := by simp [b, q2]
    have hbn : ∀ i : Nat, i < S.length → nth b i = nth (meshAt S j) i - nth (fromL S m P d) i := by
      intro i hi
      simp [b, nth, List.getD_eq_getElem?_getD, hi]
    have hbi : ∀ i : Nat, i < (sizeL S m P d).length → 0 ≤ nth b i ∧ nth b i < nth (sizeL S m P d) i := by
      intro i hi
      rw [hbn i (by omega)]
      have := hcov i (by omega)
      omega
    have hin := idxL_in p1 hbl hbi
    obtain ⟨i, hi⟩ : ∃ i : Nat, idxL (sizeL S m P d) b = i := ⟨(idxL (sizeL S m P d) b).toNat, by omega⟩
    refine ⟨i, by show i < (partD (S, D) m P d).length; omega, ?_⟩
    show idxL S (addL (meshAt (sizeL S m P d) (i : Nat)) (fromL S m P d)) = j
    have hab : addL (meshAt (sizeL S m P d) (i : Nat)) (fromL S m P d) = meshAt S j := by
      rw [← hi, at_idx p1 hbl hbi]
      refine list_nth (by rw [addL_len, meshAt_len]; omega) fun k hk => ?_
      rw [addL_len] at hk
      have hs := (shapeOK_rng g.shape).2 k (by omega)
      have := ha k (by omega)
      rw [nth_addL' _ _ _ hk (by omega), hbn k (by omega), Int.sub_add_cancel, w_id (by omega)]
    rw [hab]
    exact idx_at g.shape (by omega) (by omega)
theorem Good.join (sv : AV) : joinT sv (allL (S, D) m P) S m P = okTn (clT sv S) (trF D) := by
  obtain ⟨hd1, hd2, hd3⟩ := g.dv
  obtain ⟨hal, hat⟩ := g.allLen
  unfold joinT
  rw [if_pos ⟨g.mesh, g.shape, g.sok⟩, if_pos (by omega), if_pos, if_pos, g.jD]
  · rw [allN_iff]
    intro d hd
    have hdv : (d : Int) < devs m := by omega
    obtain ⟨hf, f1, f2⟩ := part_first (g.ct hdv)
    obtain ⟨e, he⟩ : ∃ e : Nat, firstL m P d = e := ⟨(firstL m P d).toNat, by have := hf.2.2.1; omega⟩
    rw [he] at hf f1 f2
    unfold ok2
    rw [he, Int.toNat_natCast, hat d hdv, hat e hf.2.2.2]
    unfold partD
    simp only [f1, f2]
    exact sameT_refl _
  · rw [allN_iff]
    intro d hd
    have hdv : (d : Int) < devs m := by omega
    obtain ⟨p1, p2, p3⟩ := g.part hdv
    unfold ok1
    rw [hat d hdv]
    simp [Pq.tOK, p1, p3, sameL_refl]
end
/-- How many numbers the first tensors of a list have. -/
def sumN (L : List TS) : Nat → Int
  | 0 => 0
  | d + 1 => w (sumN L d + (tth L d).2.length)
section
variable {S D m P : List Int} (g : Good S D m P)
include g
theorem Good.sumN_eq : ∀ n : Nat, (n : Int) ≤ devs m → sumN (allL (S, D) m P) n = sumD S m P n := by
  intro n
  induction n with
  | zero => intro _; rfl
  | succ n ih =>
    intro hn
    simp only [sumN, sumD]
    rw [ih (by omega), g.allLen.2 n (by omega)]
    show w (_ + ((partD (S, D) m P n).length : Int)) = _
    obtain ⟨p1, p2, p3⟩ := g.part (d := n) (by omega)
    rw [p3, p2]
theorem Good.sum : sumN (allL (S, D) m P) (allL (S, D) m P).length = w (D.length * rCopies m P) := by
  have hn := sizeOf_nonneg S
  have hd := g.dl
  have hz : sizeOf S = prodW 1 S := by simp [sizeOf, g.shape]
  have hdl : (D.length : Int) = prodW 1 S := by omega
  rw [g.allLen.1, g.sumN_eq _ (by have := g.dv; omega), sum_law g.six g.lens g.s3 g.pl g.spec, hdl]
end
/- Plain law of SplitFirsts: a part that was turned. -/
/-! ### writes beside a place -/
section
variable {s fr sh dat : List Int}
theorem jd_other {j : Nat} : ∀ (n : Nat) (E : List Int), (∀ i : Nat, i < n → 0 ≤ idxL s (addL (meshAt sh (i : Nat)) fr) ∧ idxL s (addL (meshAt sh (i : Nat)) fr) < E.length ∧ idxL s (addL (meshAt sh (i : Nat)) fr) ≠ j) → nth (jd s fr sh dat n E) j = nth E j := by
  intro n
  induction n with
  | zero => intro E _; rfl
  | succ n ih =>
    intro E h
    obtain ⟨h0, h1, h2⟩ := h n (by omega)
    simp only [jd]
    rw [nth_set _ _ _ _ (by rw [jd_len]; omega), if_neg (by omega)]
    exact ih E fun i hi => h i (by omega)
theorem jd_hit {j i0 : Nat} : ∀ (n : Nat) (E : List Int), i0 < n → (∀ i : Nat, i < n → 0 ≤ idxL s (addL (meshAt sh (i : Nat)) fr) ∧ idxL s (addL (meshAt sh (i : Nat)) fr) < E.length ∧ (i ≠ i0 → idxL s (addL (meshAt sh (i : Nat)) fr) ≠ j)) → idxL s (addL (meshAt sh (i0 : Nat)) fr) = j → nth (jd s fr sh dat n E) j = nth dat i0 := by
  intro n
  induction n with
  | zero => intro E h; omega
  | succ n ih =>
    intro E hi0 h he
    obtain ⟨h0, h1, h2⟩ := h n (by omega)
    simp only [jd]
    rw [nth_set _ _ _ _ (by rw [jd_len]; omega)]
    by_cases hn : n = i0
    · subst hn
      rw [if_pos (by omega)]
    · rw [if_neg (by have := h2 hn; omega)]
      exact ih E (by omega) (fun i hi => h i (by omega)) he
end
theorem ja_hit {L : List TS} {s sz sp : List Int} {j k : Nat} : ∀ (n : Nat) (E : List Int), k < n → (∀ d : Nat, d < n → ∀ i : Nat, i < (tth L d).2.length → 0 ≤ idxL s (addL (meshAt (tth L d).1 (i : Nat)) (fromL s sz sp d)) ∧ idxL s (addL (meshAt (tth L d).1 (i : Nat)) (fromL s sz sp d)) < E.length ∧ ((d, i) ≠ (k, 0) → idxL s (addL (meshAt (tth L d).1 (i : Nat)) (fromL s sz sp d)) ≠ j)) →
    0 < (tth L k).2.length → idxL s (addL (meshAt (tth L k).1 (0 : Nat)) (fromL s sz sp k)) = j → nth (ja L s sz sp n E) j = nth (tth L k).2 0 := by
  intro n
  induction n with
  | zero => intro E h; omega
  | succ n ih =>
    intro E hk h hl he
    simp only [ja]
    have hlen := ja_len L s sz sp n E
    by_cases hn : n = k
    · subst hn
      exact jd_hit _ _ hl (fun i hi => by
        obtain ⟨h0, h1, h2⟩ := h n (by omega) i hi
        exact ⟨h0, by omega, fun hne => h2 (by intro e; exact hne (by simpa using congrArg Prod.snd e))⟩) he
    · rw [jd_other _ _ (fun i hi => by
        obtain ⟨h0, h1, h2⟩ := h n (by omega) i hi
        exact ⟨h0, by omega, h2 (by intro e; exact hn (congrArg Prod.fst e))⟩)]
      exact ih E (by omega) (fun d hd => h d (by omega)) hl he
/-! ### copies -/
/-- Is there an axis of the mesh along which nothing is cut? -/
def loose (m p : List Int) : Bool := (List.range m.length).any fun (j : Nat) => !contains p (j : Int) && decide (1 < nth m j)
def looseOK (m p : List Int) : Bool := !specGo m.length [] p || (decide (1 < rCopies m p) == loose m p)
def ents : List Int := [-1, 0, 1, 2]
theorem loose_fin : (six.all fun m => looseOK m [] && ents.all fun a => looseOK m [a] && ents.all fun b => looseOK m [a, b] && ents.all fun c => looseOK m [a, b, c]) = true := by decide +kernel
theorem loose_eq {m p : List Int} (hm : m ∈ six) (h3 : p.length ≤ 3) (hp : specGo m.length [] p = true) : loose m p = decide (1 < rCopies m p) := by
  have hr := spec_rng hp
  have hl := (six_ok m hm).2.2.2
  have hent : ∀ x ∈ p, x ∈ ents := by
    intro x hx
    have := hr x hx
    have : x = -1 ∨ x = 0 ∨ x = 1 ∨ x = 2 := by omega
    rcases this with rfl | rfl | rfl | rfl <;> decide
  have h0 := List.all_eq_true.1 loose_fin m hm
  have key : looseOK m p = true := by
    match p, h3, hent with
    | [], _, _ => simp only [Bool.and_eq_true] at h0; exact h0.1
    | [a], _, he =>
      simp only [Bool.and_eq_true, List.all_eq_true] at h0
      exact (h0.2 a (he a (by simp))).1
    | [a, b], _, he =>
      simp only [Bool.and_eq_true, List.all_eq_true] at h0
      exact ((h0.2 a (he a (by simp))).2 b (he b (by simp))).1
    | [a, b, c], _, he =>
      simp only [Bool.and_eq_true, List.all_eq_true] at h0
      exact ((h0.2 a (he a (by simp))).2 b (he b (by simp))).2 c (he c (by simp))
    | _ :: _ :: _ :: _ :: _, h3, _ => simp at h3
  simp only [looseOK, hp, Bool.not_true, Bool.false_or, beq_iff_eq] at key
  exact key.symm
theorem ofL_at {m : List Int} {d : Int} (hm : meshOK m = true) (h0 : 0 ≤ d) (h1 : d < devs m) : ofL m (meshAt m d) = d := by
  obtain ⟨h3, hr⟩ := meshOK_pos hm
  have hz : devs m = prodW 1 m := by simp [devs, hm]
  unfold ofL
  rw [if_neg (by simp [hm, meshAt_len])]
  exact of_at' (by omega) (fun j hj => by have := hr j hj; omega) h0 (by omega)
theorem firstL_eq {m p : List Int} {d : Int} (hp : specOK m p p.length = true) (h0 : 0 ≤ d) (h1 : d < devs m) : firstL m p d = ofL m (maskL p 0 (meshAt m d)) := by
  unfold firstL
  rw [if_neg (by simp [hp]; omega)]
section
variable {S D m P : List Int} (g : Good S D m P)
include g
theorem Good.sokP : Pq.specOK m P P.length = true := by have := g.sok; rw [g.pl]; exact this
theorem Good.first_id (h : ¬ 1 < rCopies m P) {d : Nat} (hd : (d : Int) < devs m) : firstL m P d = d := by
  have hl := loose_eq g.six (by have := g.s3; have := g.pl; omega) g.spec
  rw [decide_eq_false h] at hl
  have hin := fun j hj => meshAt_in g.mesh (Int.natCast_nonneg d) hd j hj
  have hmp := (meshOK_pos g.mesh).2
  have hmask : maskL P 0 (meshAt m d) = meshAt m d := by
    refine list_nth (maskL_len _ _ _) fun j hj => ?_
    rw [maskL_len, meshAt_len] at hj
    rw [nth_mask P _ 0 j (by rw [meshAt_len]; exact hj)]
    split
    · rfl
    · rename_i hc
      have h1 := List.any_eq_false.1 hl j (by simp; omega)
      simp only [Nat.zero_add] at hc
      have hc' : contains P (j : Int) = false := by simpa using hc
      simp only [hc', Bool.not_false, Bool.true_and, decide_eq_true_eq] at h1
      have := hmp j hj
      have := hin j hj
      omega
  rw [firstL_eq g.sokP (Int.natCast_nonneg d) hd, hmask]
  exact ofL_at g.mesh (Int.natCast_nonneg d) hd
theorem Good.first_two (h : 1 < rCopies m P) {d : Nat} (hd : (d : Int) < devs m) : ∃ e : Nat, (e : Int) < devs m ∧ e ≠ d ∧ firstL m P e = firstL m P d := by
  have hl := loose_eq g.six (by have := g.s3; have := g.pl; omega) g.spec
  rw [decide_eq_true h] at hl
  obtain ⟨j, hj, hj2⟩ := List.any_eq_true.1 hl
  simp only [List.mem_range] at hj
  simp only [Bool.and_eq_true, Bool.not_eq_true', decide_eq_true_eq] at hj2
  obtain ⟨hc, h1⟩ := hj2
  have hin := fun j hj => meshAt_in g.mesh (Int.natCast_nonneg d) hd j hj
  have hml := meshAt_len m d
  obtain ⟨x, hx0, hx1, hxn⟩ : ∃ x : Int, 0 ≤ x ∧ x < nth m j ∧ x ≠ nth (meshAt m d) j := by
    by_cases h0 : nth (meshAt m d) j = 0
    · exact ⟨1, by omega, h1, by omega⟩
    · exact ⟨0, by omega, by omega, fun e => h0 e.symm⟩
  have hsl : ((meshAt m d).set j x).length = m.length := by simp [hml]
  have hsn : ∀ i : Nat, nth ((meshAt m d).set j x) i = if i = j then x else nth (meshAt m d) i := fun i => nth_set _ _ _ _ (by omega)
  have hsi : ∀ i : Nat, i < m.length → 0 ≤ nth ((meshAt m d).set j x) i ∧ nth ((meshAt m d).set j x) i < nth m i := by
    intro i hi
    rw [hsn]
    split
    · rename_i he; subst he; exact ⟨hx0, hx1⟩
    · exact hin i hi
  have he := ofL_in g.mesh hsl hsi
  obtain ⟨e, hee⟩ : ∃ e : Nat, ofL m ((meshAt m d).set j x) = e := ⟨(ofL m ((meshAt m d).set j x)).toNat, by omega⟩
  have hat := at_ofL g.mesh hsl hsi
  rw [hee] at he hat
  refine ⟨e, he.2, ?_, ?_⟩
  · intro h
    subst h
    have := hsn j
    rw [← hat, if_pos rfl] at this
    exact hxn this.symm
  · rw [firstL_eq g.sokP he.1 he.2, firstL_eq g.sokP (Int.natCast_nonneg d) hd, hat]
    congr 1
    refine list_nth (by simp [maskL_len]) fun i hi => ?_
    rw [maskL_len, hsl] at hi
    rw [nth_mask P _ 0 i (by omega), nth_mask P _ 0 i (by omega), hsn]
    by_cases hij : i = j
    · subst hij
      simp only [Nat.zero_add, hc, Bool.false_eq_true, if_false]
    · rw [if_neg hij]
end
/-! ### parts of a length do not meet -/
def prtU (n k a : Int) (c : Int) : Bool := !(decide ((cut n k c).1 ≤ a ∧ a < (cut n k c).2)) || decide (c = prt n k a)
theorem prtU_fin : ((List.range 8).all fun n => (List.range 8).all fun k => (List.range n).all fun a => (List.range (k + 1)).all fun c => prtU (n : Nat) ((k + 1 : Nat) : Int) (a : Nat) (c : Nat)) = true := by decide +kernel
theorem prt_uniq {n k a c : Int} (hn : n ≤ 7) (hk : 1 ≤ k ∧ k ≤ 8) (ha : 0 ≤ a ∧ a < n) (hc : 0 ≤ c ∧ c < k) (h : (cut n k c).1 ≤ a ∧ a < (cut n k c).2) : c = prt n k a := by
  obtain ⟨n, rfl⟩ : ∃ m : Nat, n = m := ⟨n.toNat, by omega⟩
  obtain ⟨k, rfl⟩ : ∃ m : Nat, k = m + 1 := ⟨(k - 1).toNat, by omega⟩
  obtain ⟨a, rfl⟩ : ∃ m : Nat, a = m := ⟨a.toNat, by omega⟩
  obtain ⟨c, rfl⟩ : ∃ m : Nat, c = m := ⟨c.toNat, by omega⟩
  have h1 := List.all_eq_true.1 prtU_fin n (by simp; omega)
  have h2 := List.all_eq_true.1 h1 k (by simp; omega)
  have h3 := List.all_eq_true.1 h2 a (by simp; omega)
  have h4 := List.all_eq_true.1 h3 c (by simp; omega)
  simp only [prtU, Bool.or_eq_true, Bool.not_eq_true', decide_eq_false_iff_not, decide_eq_true_eq] at h4
  rcases h4 with h4 | h4
  · exact absurd h h4
  · exact h4
def cutB (n k c : Int) : Bool := decide (0 ≤ (cut n k c).1 ∧ (cut n k c).1 ≤ (cut n k c).2 ∧ (cut n k c).2 ≤ n)
theorem cutB_fin : ((List.range 8).all fun n => (List.range 8).all fun k => (List.range (k + 1)).all fun c => cutB (n : Nat) ((k + 1 : Nat) : Int) (c : Nat)) = true := by decide +kernel
theorem cut_b {n k c : Int} (hn : 0 ≤ n ∧ n ≤ 7) (hk : 1 ≤ k ∧ k ≤ 8) (hc : 0 ≤ c ∧ c < k) : 0 ≤ (cut n k c).1 ∧ (cut n k c).1 ≤ (cut n k c).2 ∧ (cut n k c).2 ≤ n := by
  obtain ⟨n, rfl⟩ : ∃ m : Nat, n = m := ⟨n.toNat, by omega⟩
  obtain ⟨k, rfl⟩ : ∃ m : Nat, k = m + 1 := ⟨(k - 1).toNat, by omega⟩
  obtain ⟨c, rfl⟩ : ∃ m : Nat, c = m := ⟨c.toNat, by omega⟩
  have h1 := List.all_eq_true.1 cutB_fin n (by simp; omega)
  have h2 := List.all_eq_true.1 h1 k (by simp; omega)
  have h4 := List.all_eq_true.1 h2 c (by simp; omega)
  simpa [cutB] using h4
theorem nth_mem {l : List Int} {j : Nat} (h : j < l.length) : nth l j ∈ l := by simp [nth, List.getD_eq_getElem?_getD, h]
/-- Where a number of a part lies in the tensor. -/
noncomputable def whr (S m P : List Int) (d i : Nat) : List Int := addL (meshAt (sizeL S m P d) (i : Nat)) (fromL S m P d)
section
variable {S D m P : List Int} (g : Good S D m P)
include g
theorem Good.whr_in {d i : Nat} (hd : (d : Int) < devs m) (hi : i < (partD (S, D) m P d).length) : (whr S m P d i).length = S.length ∧ ∀ j : Nat, j < S.length → nth (whr S m P d i) j = nth (meshAt (sizeL S m P d) (i : Nat)) j + nth (fromL S m P d) j ∧ 0 ≤ nth (whr S m P d i) j ∧ nth (whr S m P d i) j < nth S j ∧ 0 ≤ nth (meshAt (sizeL S m P d) (i : Nat)) j ∧ nth (meshAt (sizeL S m P d) (i : Nat)) j < nth (sizeL S m P d) j := by
  obtain ⟨h1, h2, h3⟩ := g.part hd
  have hw := whole_in (g.ct hd) h1 (i := (i : Int)) (by omega) (by omega)
  have hl := (g.sz7 hd).2
  refine ⟨by unfold whr; rw [addL_len, meshAt_len, hl], fun j hj => ?_⟩
  obtain ⟨a1, a2, a3⟩ := hw j hj
  have hp := place_in h1 (i := (i : Int)) (by omega) (by omega) j (by omega)
  exact ⟨a1, a2, a3, hp.1, hp.2⟩
/-- Parts that meet are copies. -/
theorem Good.meet {d e i k : Nat} (hd : (d : Int) < devs m) (he : (e : Int) < devs m) (hi : i < (partD (S, D) m P d).length) (hk : k < (partD (S, D) m P e).length) (h : idxL S (whr S m P d i) = idxL S (whr S m P e k)) : firstL m P d = firstL m P e ∧ (d = e → i = k) := by
  obtain ⟨l1, n1⟩ := g.whr_in hd hi
  obtain ⟨l2, n2⟩ := g.whr_in he hk
  have e1 := at_idx g.shape l1 (fun j hj => ⟨(n1 j hj).2.1, (n1 j hj).2.2.1⟩)
  have e2 := at_idx g.shape l2 (fun j hj => ⟨(n2 j hj).2.1, (n2 j hj).2.2.1⟩)
  have heq : whr S m P d i = whr S m P e k := by rw [← e1, ← e2, h]
  have hS : ∀ j : Nat, j < S.length → 0 ≤ nth S j ∧ nth S j ≤ 7 := fun j hj => lens_rng _ (g.lens _ (nth_mem hj))
  have hmp := (meshOK_pos g.mesh).2
  have hpr := spec_rng g.spec
  have hpl := g.pl
  constructor
  · have hmask : maskL P 0 (meshAt m d) = maskL P 0 (meshAt m e) := by
      refine list_nth (by simp [maskL_len, meshAt_len]) fun q hq => ?_
      rw [maskL_len, meshAt_len] at hq
      rw [nth_mask P _ 0 q (by rw [meshAt_len]; exact hq), nth_mask P _ 0 q (by rw [meshAt_len]; exact hq)]
      split
      · rename_i hc
        rw [Nat.zero_add, contains_iff] at hc
        obtain ⟨j, hj, hjq⟩ := List.getElem_of_mem hc
        have hjS : j < S.length := by omega
        have hPj : nth P j = q := by simp [nth, List.getD_eq_getElem?_getD, hj, hjq]
        obtain ⟨f1, z1⟩ := part_at (g.ct hd) j hjS
        obtain ⟨f2, z2⟩ := part_at (g.ct he) j hjS
        rw [hPj] at f1 z1 f2 z2
        unfold cutAt at f1 z1 f2 z2
        rw [if_pos (by omega)] at f1 z1 f2 z2
        have c1 := meshAt_in g.mesh (Int.natCast_nonneg d) hd q hq
        have c2 := meshAt_in g.mesh (Int.natCast_nonneg e) he q hq
        have b1 := cut_b (hS j hjS) (hmp q hq) c1
        have b2 := cut_b (hS j hjS) (hmp q hq) c2
        have hsj := hS j hjS
        rw [w_id (by omega)] at z1 z2
        have m1 := n1 j hjS
        have m2 := n2 j hjS
        have hn : nth (whr S m P d i) j = nth (whr S m P e k) j := by rw [heq]
        have u1 := prt_uniq (a := nth (whr S m P d i) j) hsj.2 (hmp q hq) (by omega) c1 (by omega)
        have u2 := prt_uniq (a := nth (whr S m P d i) j) hsj.2 (hmp q hq) (by omega) c2 (by omega)
        rw [u1, u2]
      · rfl
    rw [firstL_eq g.sokP (Int.natCast_nonneg d) hd, firstL_eq g.sokP (Int.natCast_nonneg e) he, hmask]
  · intro hde
    subst hde
    obtain ⟨h1, h2, h3⟩ := g.part hd
    have hzl := (g.sz7 hd).2
    have hm : meshAt (sizeL S m P d) (i : Nat) = meshAt (sizeL S m P d) (k : Nat) := by
      refine list_nth (by simp [meshAt_len]) fun j hj => ?_
      rw [meshAt_len] at hj
      have hjS : j < S.length := by omega
      have m1 := n1 j hjS
      have m2 := n2 j hjS
      have hn : nth (whr S m P d i) j = nth (whr S m P d k) j := by rw [heq]
      omega
    have i1 := idx_at h1 (j := (i : Int)) (by omega) (by omega)
    have i2 := idx_at h1 (j := (k : Int)) (by omega) (by omega)
    rw [hm, i2] at i1
    omega
end
/-- A list whose one tensor's first number was turned. -/
def turn (L : List TS) (k : Nat) : List TS := L.set k ((tth L k).1, (tth L k).2.set 0 (w (nth (tth L k).2 0 + 1)))
theorem turn_len (L : List TS) (k : Nat) : (turn L k).length = L.length := by simp [turn]
theorem turn_at (L : List TS) (k j : Nat) (hk : k < L.length) : tth (turn L k) j = if j = k then ((tth L k).1, (tth L k).2.set 0 (w (nth (tth L k).2 0 + 1))) else tth L j := by
  unfold turn
  by_cases h : j = k
  · subst h
    rw [if_pos rfl]
    show (L.set j _).getD j _ = _
    rw [List.getD_eq_getElem?_getD, List.getElem?_set_self hk]; rfl
  · rw [if_neg h]
    show (L.set k _).getD j _ = L.getD j _
    rw [List.getD_eq_getElem?_getD, List.getD_eq_getElem?_getD, List.getElem?_set_ne (fun e => h e.symm)]
theorem w_succ_ne (x : Int) : w (x + 1) ≠ x := by
  show IntKind.i64.wrap (x + 1) ≠ x
  simp [IntKind.wrap, IntKind.bits, IntKind.signed]
  omega
theorem sameT_eq {p q : TS} (h : sameT p q = true) : p = q := by
  simp only [sameT, Bool.and_eq_true] at h
  exact Prod.ext (sameL_eq h.1) (sameL_eq h.2)
section
variable {S D m P : List Int} (g : Good S D m P)
include g
theorem Good.turn_at {k : Nat} (hk : (k : Int) < devs m) (j : Nat) (hj : (j : Int) < devs m) : tth (turn (allL (S, D) m P) k) j = if j = k then (sizeL S m P k, (partD (S, D) m P k).set 0 (w (nth (partD (S, D) m P k) 0 + 1))) else (sizeL S m P j, partD (S, D) m P j) := by
  rw [Pq.turn_at _ _ _ (by rw [g.allLen.1]; omega), g.allLen.2 k hk, g.allLen.2 j hj]
theorem Good.turn_ok {k : Nat} (hk : (k : Int) < devs m) : allN (ok1 (turn (allL (S, D) m P) k) S m P) (turn (allL (S, D) m P) k).length = true := by
  rw [allN_iff]
  intro d hd
  rw [turn_len, g.allLen.1] at hd
  have hdv : (d : Int) < devs m := by omega
  obtain ⟨p1, p2, p3⟩ := g.part hdv
  unfold ok1
  rw [g.turn_at hk d hdv]
  split
  · rename_i e
    subst e
    simp [Pq.tOK, p1, p3, sameL_refl]
  · simp [Pq.tOK, p1, p3, sameL_refl]
/-- A copy that was turned is refused. -/
theorem Good.turn_same (h : 1 < rCopies m P) {k : Nat} (hk : (k : Int) < devs m) (hl : 0 < (partD (S, D) m P k).length) (sv : AV) : joinT sv (turn (allL (S, D) m P) k) S m P = zeroT 25 := by
  obtain ⟨hd1, hd2, hd3⟩ := g.dv
  have hlen := g.allLen.1
  unfold joinT
  rw [if_pos ⟨g.mesh, g.shape, g.sok⟩, if_pos (by rw [turn_len]; omega), if_pos (g.turn_ok hk), if_neg]
  intro hall
  rw [allN_iff] at hall
  obtain ⟨e, he, hne, hf⟩ := g.first_two h hk
  have o1 := hall k (by rw [turn_len]; omega)
  have o2 := hall e (by rw [turn_len]; omega)
  unfold ok2 at o1 o2
  rw [hf] at o2
  have o3 := (sameT_eq o2).trans (sameT_eq o1).symm
  rw [g.turn_at hk e he, if_neg hne, g.turn_at hk k hk, if_pos rfl] at o3
  obtain ⟨_, f1, f2⟩ := part_first (g.ct he)
  obtain ⟨_, f3, f4⟩ := part_first (g.ct hk)
  rw [hf] at f1 f2
  have hpd : partD (S, D) m P e = partD (S, D) m P k := by
    unfold partD
    simp only [f1, f2, f3, f4]
  have o4 := congrArg Prod.snd o3
  simp only [hpd] at o4
  have o5 := congrArg (fun l => nth l ((0 : Nat) : Int)) o4
  simp only [nth_set _ _ _ _ hl, if_true] at o5
  exact w_succ_ne _ o5.symm
/-- A part that was turned makes another tensor. -/
theorem Good.turn_other (h : ¬ 1 < rCopies m P) {k : Nat} (hk : (k : Int) < devs m) (hl : 0 < (partD (S, D) m P k).length) (sv : AV) : ∃ D', joinT sv (turn (allL (S, D) m P) k) S m P = okTn (clT sv S) (trF D') ∧ D'.length ≤ 4096 ∧ sameT (S, D') (S, D) = false := by
  obtain ⟨hd1, hd2, hd3⟩ := g.dv
  have hlen := g.allLen.1
  have hz := sizeOf_le S
  refine ⟨joinD (turn (allL (S, D) m P) k) S m P, ?_, ?_, ?_⟩
  · unfold joinT
    rw [if_pos ⟨g.mesh, g.shape, g.sok⟩, if_pos (by rw [turn_len]; omega), if_pos (g.turn_ok hk), if_pos]
    rw [allN_iff]
    intro d hd
    rw [turn_len, hlen] at hd
    unfold ok2
    rw [g.first_id h (by omega), Int.toNat_natCast]
    exact sameT_refl _
  · unfold joinD
    rw [ja_len]
    simp
    omega
  · rw [Bool.eq_false_iff]
    intro hs
    have hD := congrArg Prod.snd (sameT_eq hs)
    simp only at hD
    obtain ⟨i0, i1, i2⟩ := g.num hk hl
    obtain ⟨j, hj⟩ : ∃ j : Nat, idxL S (whr S m P k 0) = j := ⟨(idxL S (whr S m P k 0)).toNat, by show _ = ((idxL S (whr S m P k 0)).toNat : Int); have : 0 ≤ idxL S (whr S m P k 0) := i0; omega⟩
    have hit : nth (joinD (turn (allL (S, D) m P) k) S m P) j = w (nth (partD (S, D) m P k) 0 + 1) := by
      unfold joinD
      rw [ja_hit (k := k) _ _ (by rw [turn_len]; omega)]
      · rw [g.turn_at hk k hk, if_pos rfl]
        have := nth_set (partD (S, D) m P k) 0 0 (w (nth (partD (S, D) m P k) 0 + 1)) hl
        simpa using this
      · intro d hd i hi
        rw [turn_len, hlen] at hd
        have hdv : (d : Int) < devs m := by omega
        have hsz : (tth (turn (allL (S, D) m P) k) d).1 = sizeL S m P d ∧ (tth (turn (allL (S, D) m P) k) d).2.length = (partD (S, D) m P d).length := by
          rw [g.turn_at hk d hdv]
          split
          · rename_i e; subst e; simp
          · exact ⟨rfl, rfl⟩
        rw [hsz.2] at hi
        rw [hsz.1]
        obtain ⟨n0, n1, _⟩ := g.num hdv hi
        refine ⟨n0, by simp; omega, fun hne he => ?_⟩
        obtain ⟨m1, m2⟩ := g.meet hdv hk hi hl (he.trans hj.symm)
        rw [g.first_id h hdv, g.first_id h hk] at m1
        have hdk : d = k := by omega
        exact hne (by rw [hdk, m2 hdk])
      · rw [g.turn_at hk k hk, if_pos rfl]
        simpa using hl
      · rw [g.turn_at hk k hk, if_pos rfl]
        exact hj
    rw [hD] at hit
    have i2' : nth (partD (S, D) m P k) (0 : Nat) = nth D (idxL S (whr S m P k 0)) := i2
    rw [hj] at i2'
    rw [← i2'] at hit
    exact w_succ_ne _ hit.symm
end
/- Walks: SplitBack. -/
theorem made_good {l : List Int} (hr : In64 l) : Good (mdS l).1 (mdD l).1 (mdM l) (mdP l).1 := by
  obtain ⟨hk0, hk1⟩ := next_in hr 0 7 (by omega)
  obtain ⟨hn0, hn3⟩ := next_in hr (nextAt l 0 7) 4 (by omega)
  have h3 : (mdS l).1.length = (nextOf l (nextAt l 0 7) 4).toNat := shapeT_len l _ _
  refine ⟨?_, shapeT_mem hr _ _, by omega, specT_len l _ _ _ _, ?_, dataT_len l _ _⟩
  · have hlt : (nextOf l 0 7).toNat < seven.length := by simp [seven]; omega
    have : mdM l = seven[(nextOf l 0 7).toNat] := by
      simp only [mdM, List.getD_eq_getElem?_getD, List.getElem?_eq_getElem hlt, Option.getD_some]
    rw [this]
    have hsub : ∀ m ∈ seven, m ∈ six := by decide
    exact hsub _ (List.getElem_mem hlt)
  · exact specT_ok hr _ _ _ _ [] (by simp) (by simp)
theorem trC_notMt {c : Nat} {H : Hp} {l : List Int} {v : AV} {bs : List (Nat × Nat)} (h : Rep c H (trC l) v bs) : notMt v = true := by
  unfold trC at h
  split at h
  · obtain ⟨b, ver, rfl, _⟩ := rep_F.1 h; rfl
  · rcases rep_S.1 h with ⟨_, rfl, _⟩ | ⟨b, ver, rfl, _⟩ <;> rfl
theorem trF_notMt {c : Nat} {H : Hp} {l : List Int} {v : AV} {bs : List (Nat × Nat)} (h : Rep c H (trF l) v bs) : notMt v = true := by
  obtain ⟨b, ver, rfl, _⟩ := rep_F.1 h; rfl
theorem made_rep {H : Hp} (hw : Wf H) {l : List Int} (hr : In64 l) : ∃ x y mv pv A, mk (madeTr l) H = (.tup [.agg [x, y], mv, pv], A) ∧ Ext H A ∧ ints A x = some (mdS l).1 ∧ ints A y = some (mdD l).1 ∧ ints A mv = some (mdM l) ∧ ints A pv = some (mdP l).1 ∧ notMt x = true ∧ notMt y = true ∧ notMt mv = true ∧ notMt pv = true := by
  have g := made_good hr
  have h3 := g.s3
  have hm := (six_ok _ g.six).2.2.2
  have hp := g.pl
  have hd := g.dl
  have hz := sizeOf_le (mdS l).1
  obtain ⟨bs, h1, _, h2⟩ := mk_rep (madeTr l) (c0 := 0) hw (Nat.zero_le _) (by simp [madeTr, okT, okTs, okT_C, okT_S, okT_F])
  have e : mk (madeTr l) H = ((mk (madeTr l) H).1, (mk (madeTr l) H).2) := rfl
  generalize (mk (madeTr l) H).1 = v at *
  generalize (mk (madeTr l) H).2 = A at *
  unfold madeTr at h1
  simp only [Rep, Reps] at h1
  obtain ⟨vs, rfl, v1, vs1, b1, b2, rfl, ⟨ws, rfl, x, ws1, c1, c2, rfl, rx, ⟨y, ws2, d1, d2, rfl, ry, ⟨rfl, _⟩, _⟩, _⟩, ⟨mv, vs2, e1, e2, rfl, rm, ⟨pv, vs3, f1, f2, rfl, rp, ⟨rfl, _⟩, _⟩, _⟩, _⟩ := h1
  refine ⟨x, y, mv, pv, A, e, h2, repL_ints (by omega) (.inr (.inr rx)), repL_ints (by omega) (.inl ry), repL_ints (by omega) (.inr (.inl rm)), repL_ints (by omega) (.inr (.inl rp)), trC_notMt rx, ?_, trF_notMt rm, trF_notMt rp⟩
  rcases rep_S.1 ry with ⟨_, rfl, _⟩ | ⟨b, ver, rfl, _⟩ <;> rfl
theorem F31_at {H : Hp} {v : AV} {l : List Int} (hl : ints H v = some l) (hr : In64 l) : F31 [v] H = some (mk (madeTr l) H) := by
  show (ints H v).bind _ = _
  rw [hl, Option.bind_some, if_pos hr]
theorem F37_at {H : Hp} {t a b : AV} {p : TS} {sz sp : List Int} (ht : tens H t = some p) (ha : ints H a = some sz) (hb : ints H b = some sp) : F37 [t, a, b] H = some (mk (allT p sz sp) H) := by
  show (tens H t).bind _ = _
  rw [ht, Option.bind_some, ha, Option.bind_some, hb, Option.map_some]
theorem F38_at {H : Hp} {t s a b : AV} {L : List TS} {sh sz sp : List Int} (ht : tensL H t = some L) (hs : ints H s = some sh) (ha : ints H a = some sz) (hb : ints H b = some sp) (hm : notMt s = true) (hl : sh.length < 1099511627776) : F38 [t, s, a, b] H = some (mk (joinT s L sh sz sp) H) := by
  show (tensL H t).bind _ = _
  rw [ht, Option.bind_some, hs, Option.bind_some, ha, Option.bind_some, hb, Option.bind_some, if_pos ⟨hm, hl⟩]
/-- A tensor that Join hands back. -/
theorem join_rep {H : Hp} (hw : Wf H) {sv : AV} {S D : List Int} (hsv : ints H sv = some S) (hS : S.length ≤ 1152921504606846976) (hD : D.length ≤ 1152921504606846976) : ∃ x y A, mk (okTn (clT sv S) (trF D)) H = (.tup [.agg [x, y], .int .i64 0], A) ∧ Ext H A ∧ tens A (.agg [x, y]) = some (S, D) := by
  obtain ⟨bs, r1, _, x1, t1⟩ := mk_tens (H := H) hw (a := clT sv S) (b := trF D) (clT_is hsv) (.inr (.inl rfl)) hS hD
  rw [mk_okTn]
  obtain ⟨x, y, b1, b2, e, _⟩ := rep_agg2.1 r1
  refine ⟨x, y, _, by rw [← e], x1, by rw [← e]; exact t1⟩
open Classical in
noncomputable def F10 (args : List AV) (H : Hp) : Option AV := match args with
  | [v] => if ∃ l, ints H v = some l ∧ In64 l then some (.bool true) else none
  | _ => none
set_option maxHeartbeats 4000000 in
theorem snd10 : Sound Try.prog 10 (FSem.pure F10).run := by
  refine sound_of hT (EOK_cons snd31 (EOK_cons snd37 (EOK_cons snd38 (EOK_cons snd39 (EOK_cons snd23 (EOK_cons snd20 (EOK_cons snd36 (EOK_nil _)))))))) mixed A10 Try.func10 hb10 (by kernel_rfl) (by kernel_rfl) (by kernel_rfl) (by kernel_rfl) sh10 1 (by kernel_rfl) rs10 hr10 ?_
  intro args H r H' hw h
  obtain ⟨rfl, hv⟩ := pureAt h
  clear h
  unfold F10 at hv
  split at hv
  rotate_left
  · cases hv
  rename_i v
  split at hv
  rotate_left
  · cases hv
  rename_i hex
  obtain ⟨l, hl, hr⟩ := hex
  cases hv
  have g := made_good hr
  obtain ⟨x, y, mv, pv, A1, e31, x1, ix, iy, im, ip, mx, my, mm', mp⟩ := made_rep (H := H') hw hr
  have e31' := F31_at hl hr
  rw [e31] at e31'
  generalize (mdS l).1 = S at *
  generalize (mdD l).1 = D at *
  generalize mdM l = m at *
  generalize (mdP l).1 = P at *
  clear e31
  refine ⟨rfl, go ?_⟩
  unfold c10
  simp only [argSl]
  refine goSeq (goReg (goOp rfl rfl (goNil (goSeqN ?_))))
  refine goSeq (goReg ?_)
  iterate 6 (apply goOp; (· (simp [e31']; try exact rfl)); (· exact rfl))
  refine goCell x1.wf (ints_one' ix) (ints_one' iy) (fun u => rfl) (fun u => rfl) fun b0 q0 A2 x2 a2 u1 u2 u3 => ?_
  iterate 2 (apply goOp; (· (simp; try exact rfl)); (· exact rfl))
  refine goNil (goSeqN (goSeq (goReg ?_)))
  have hz := sizeOf_le S
  have hdl := g.dl
  have h3 := g.s3
  have ht2 := tens_of (ints_ext x2.pre ix) (ints_ext x2.pre iy)
  have im2 := ints_ext x2.pre im
  have ip2 := ints_ext x2.pre ip
  obtain ⟨lv, A3, hal, x3, hL⟩ := all_rep (H := A2) x2.wf g.may
  have e37 := F37_at ht2 im2 ip2
  rw [hal] at e37
  have l2 := ld40 a2
  iterate 9 (apply goOp; (· (simp [e37, l2]; try exact rfl)); (· exact rfl))
  refine goNil (goSeqN (goSeq (goReg ?_)))
  have a3 := x3.pre.at a2
  have l3 := ld22 a3 0
  simp only [List.getElem?_cons_zero] at l3
  have ix3 := ints_ext (x2.pre.trans x3.pre) ix
  have im3 := ints_ext x3.pre im2
  have ip3 := ints_ext x3.pre ip2
  have e38 := F38_at hL ix3 im3 ip3 mx (by omega)
  rw [g.join] at e38
  obtain ⟨jx, jy, A4, hj, x4, ht4⟩ := join_rep (D := D) x3.wf ix3 (by omega) (by omega)
  rw [hj] at e38
  iterate 9 (apply goOp; (· (simp [e38, l3]; try exact rfl)); (· exact rfl))
  obtain ⟨_, _, hag, ijx, ijy⟩ := tens_some ht4
  cases hag
  refine goCell x4.wf (ints_one' ijx) (ints_one' ijy) (fun u => rfl) (fun u => rfl) fun b4 q4 A5 x5 a5 u4 u5 u6 => ?_
  apply goOp; (· (simp; try exact rfl)); (· exact rfl)
  refine goNil (goSeqN (goSeq (goReg ?_)))
  apply goOp; (· (simp; try exact rfl)); (· exact rfl)
  refine goNil (goSeqN ?_)
  -- the numbers of all parts
  have hp35 : Pre A3 A5 := x4.pre.trans x5.pre
  have hPre : Pre H' A5 := ((x1.pre.trans x2.pre).trans x3.pre).trans hp35
  obtain ⟨hn, hn8, hat⟩ := tensL_at (tensL_ext hp35 hL)
  have hsum := g.sum
  have hdv := g.dv
  have hlen := g.allLen.1
  obtain ⟨n, hnL⟩ : ∃ n : Nat, (allL (S, D) m P).length = n := ⟨_, rfl⟩
  have hrD : rDevs m = n := by rw [rDevs_eq]; omega
  generalize allL (S, D) m P = L at *
  subst hnL
  have l5 := ld40 (hp35.at a3)
  have l5' := ld38 (hp35.at a3) 1
  have l6 := ld40 a5
  have ht5 := tens_ext ((x3.pre.trans hp35)) ht2
  have ht6 := tens_ext x5.pre ht4
  have im5 := ints_ext hp35 im3
  have ip5 := ints_ext hp35 ip3
  have iy5 := ints_ext (x2.pre.trans (x3.pre.trans hp35)) iy
  have hly := alenS_ints iy5
  simp only [← alen38] at hly
  simp only [List.getElem?_cons_zero, List.getElem?_cons_succ] at l5'
  have hpl := g.pl
  replace hPre := Hide.mk hPre
  replace hsum := Hide.mk hsum
  replace hw := Hide.mk hw
  clear u1 u2 u3 u4 u5 u6 mx my mm' mp hl hr e31' g x1 x2 x3 x4 x5 ix iy im ip a2 ht2 im2 ip2 hal e37 l2 l3 ix3 im3 ip3 e38 hj ht4 ijx ijy hL hlen hdv hz hdl
  refine goSeq ?_
  refine goSeq (goReg ?_)
  iterate 3 (apply goOp; (· (simp [hn]; try exact rfl)); (· exact rfl))
  refine goNil (goSeqN (goBlock ?_))
  refine goLoop (fun mm s1 G => G = A5 ∧ ∃ i : Nat, mm = L.length - i ∧ i ≤ L.length ∧ get s1 3 = .ptr b0 q0 0 ∧ get s1 4 = mv ∧ get s1 5 = pv ∧ get s1 6 = lv ∧ get s1 7 = .int .i64 0 ∧ get s1 8 = .ptr b4 q4 0 ∧ get s1 9 = .int .i64 0 ∧ get s1 10 = .int .i64 (sumN L i) ∧ get s1 35 = .int .i64 L.length ∧ get s1 36 = .int .i64 i) L.length ?_ ?_
  · exact ⟨rfl, 0, rfl, Nat.zero_le _, rfl, rfl, rfl, rfl, rfl, rfl, rfl, rfl, rfl, rfl⟩
  rintro mm s1 G ⟨rfl, i, hmm, hi, g1, g2, g3, g4, g5, g6, g7, g8, g9, g10⟩
  simp only [cut_cons, cut_nil, g1, g2, g3, g4, g5, g6, g7, g8, g9, g10]
  clear g1 g2 g3 g4 g5 g6 g7 g8 g9 g10
  have hi0 : (0 : Int) ≤ i := Int.natCast_nonneg i
  have hw1 : w ((i : Int) + 1) = ((i + 1 : Nat) : Int) := w_id (by omega)
  by_cases hiL : i < L.length
  · have hiL' : (i : Int) < L.length := by omega
    obtain ⟨q, x', y', h1, h2, h3', b', w', o', rfl, h4⟩ := hat i hiL
    obtain ⟨_, _, hag, _, hy'⟩ := tens_some h3'
    cases hag
    have hny := alenS_ints hy'
    simp only [← alen38] at hny
    have hsn : w (sumN L i + (tth L i).2.length) = sumN L (i + 1) := rfl
    clear hat h3' hy' hp35 a3 a5 hn8 l5 l5' l6 ht5 ht6 im5 ip5 iy5 hly hrD hpl h3
    repeat' (first | apply goSeq | apply goReg | apply goSeqN | apply goSeqR | apply goSkip | apply goRet | apply goNil | apply goBlock | apply goExit | apply goBlkN | apply goBlkR | apply goBlkE | apply goSeqE | apply goLoopR | apply goLoopE | (apply goOp; (· (simp [*]; try exact rfl)); (· exact rfl)) | (apply goOp0; (· (simp [*]; try exact rfl)); (· exact rfl)) | (apply goYes; (· (simp [*]; done)); (· (simp [*]; try exact rfl)); (· exact rfl)) | (apply goNo; (· (simp [*]; done))) | (apply goNoU; (· (simp; exact rfl))) | (apply goIfT; (· (simp [*]; done))) | (apply goIfF; (· (simp [*]; done))) | (apply goIf; (· (simp; exact rfl)); (· with_reducible exact rfl)) | (apply goSplit; (· (simp; exact rfl)); (· with_reducible exact rfl)) | (apply goIfQ; (· (simp; exact rfl)); (· exact rfl)) | (apply goSplitQ; (· (simp; exact rfl)); (· exact rfl)) | (apply goBlkX; (· rfl)) | intro _)
    exact goLoopN (L.length - (i + 1)) (by omega) ⟨rfl, i + 1, rfl, by omega, rfl, rfl, rfl, rfl, rfl, rfl, rfl, rfl, rfl, rfl⟩
  · have hiE : i = L.length := by omega
    subst hiE
    have hiL' : ¬ ((L.length : Int) < L.length) := by omega
    have hsu := hsum.out
    have hst := sameT_refl (S, D)
    have hP : P.length < 1099511627776 := by omega
    clear hat hp35 a3 a5 hn8 iy5 hpl h3 hmm hi hiL hw1 hi0
    repeat' (first | apply goSeq | apply goReg | apply goSeqN | apply goSeqR | apply goSkip | apply goRet | apply goNil | apply goBlock | apply goExit | apply goBlkN | apply goBlkR | apply goBlkE | apply goSeqE | apply goLoopR | apply goLoopE | (apply goOp; (· (simp [*]; try exact rfl)); (· exact rfl)) | (apply goOp0; (· (simp [*]; try exact rfl)); (· exact rfl)) | (apply goYes; (· (simp [*]; done)); (· (simp [*]; try exact rfl)); (· exact rfl)) | (apply goNo; (· (simp [*]; done))) | (apply goNoU; (· (simp; exact rfl))) | (apply goIfT; (· (simp [*]; done))) | (apply goIfF; (· (simp [*]; done))) | (apply goIf; (· (simp; exact rfl)); (· with_reducible exact rfl)) | (apply goSplit; (· (simp; exact rfl)); (· with_reducible exact rfl)) | (apply goIfQ; (· (simp; exact rfl)); (· exact rfl)) | (apply goSplitQ; (· (simp; exact rfl)); (· exact rfl)) | (apply goBlkX; (· rfl)) | intro _)
    exact goEnd hw.out hPre.out (by simp) (by simp [rs10]; exact rfl) rfl rfl
/- Functions in short form. -/
/-! parquetry/parquetryref14.At (2 parameters; calls 20 parquetry/parquetryref14.Devices) -/
def A98 : Ann := { live := fun i => if i = 5 then [0, 1, 5, 6] else [], drop := fun i => false }
noncomputable def c98 : Cc :=
  (.seq (.reg false [⟨some 4, (Op.assign (Operand.const (Value.slice none 0 0))), none⟩])
  (.seq (.seq (.reg false [⟨some 7, (Op.move (Operand.tmp 1)), none⟩,
    ⟨some 8, (Op.binOp BinOp.lss 3 (Operand.tmp 7) (Operand.const (Value.int IntKind.i64 0)) 3), none⟩,
    ⟨some 9, (Op.move (Operand.tmp 8)), none⟩,
    ⟨some 10, (Op.move (Operand.tmp 1)), some (9, false)⟩,
    ⟨some 11, (Op.move (Operand.tmp 0)), some (9, false)⟩,
    ⟨some 12, (Op.call { callee := (Callee.value (Operand.func 20)), args := #[(Operand.tmp 11)], argTypes := #[22] }), some (9, false)⟩,
    ⟨some 13, (Op.binOp BinOp.geq 3 (Operand.tmp 10) (Operand.tmp 12) 3), some (9, false)⟩,
    ⟨some 14, (Op.pick (Operand.tmp 9) (Operand.const (Value.bool true)) (Operand.tmp 13)), none⟩])
  (.cond (Operand.tmp 14)
    (.seq (.reg false [⟨some 4, (Op.assign (Operand.const (Value.slice none 0 0))), none⟩])
    .ret)
    .skip))
  (.seq (.reg false [⟨some 15, (Op.move (Operand.tmp 0)), none⟩,
    ⟨some 16, (Op.call { callee := (Callee.builtin Builtin.len), args := #[(Operand.tmp 15)], argTypes := #[22] }), none⟩,
    ⟨some 17, (Op.makeSlice 22 (Operand.tmp 16) (Operand.tmp 16)), none⟩,
    ⟨some 5, (Op.assign (Operand.tmp 17)), none⟩])
  (.seq (.seq (.reg false [⟨some 18, (Op.move (Operand.tmp 0)), none⟩,
    ⟨some 19, (Op.call { callee := (Callee.builtin Builtin.len), args := #[(Operand.tmp 18)], argTypes := #[22] }), none⟩,
    ⟨some 20, (Op.binOp BinOp.sub 3 (Operand.tmp 19) (Operand.const (Value.int IntKind.i64 1)) 3), none⟩,
    ⟨some 6, (Op.assign (Operand.tmp 20)), none⟩])
  (.block 0 (.loop [0, 1, 5, 6] false
    (.seq (.seq (.reg false [⟨some 21, (Op.move (Operand.tmp 6)), none⟩,
      ⟨some 22, (Op.binOp BinOp.geq 3 (Operand.tmp 21) (Operand.const (Value.int IntKind.i64 0)) 3), none⟩])
    (.cond (Operand.tmp 22)
      .skip
      (.exit 0)))
    (.seq (.block 1 (.seq (.reg false [⟨some 25, (Op.move (Operand.tmp 5)), none⟩,
      ⟨some 26, (Op.move (Operand.tmp 6)), none⟩,
      ⟨some 27, (Op.move (Operand.tmp 1)), none⟩,
      ⟨some 28, (Op.move (Operand.tmp 0)), none⟩,
      ⟨some 29, (Op.move (Operand.tmp 6)), none⟩,
      ⟨some 30, (Op.indexAddr 22 (Operand.tmp 28) (Operand.tmp 29)), none⟩,
      ⟨some 31, (Op.load 3 (Operand.tmp 30)), none⟩,
      ⟨some 32, (Op.binOp BinOp.rem 3 (Operand.tmp 27) (Operand.tmp 31) 3), none⟩,
      ⟨some 33, (Op.indexAddr 22 (Operand.tmp 25) (Operand.tmp 26)), none⟩,
      ⟨none, (Op.store 3 (Operand.tmp 33) (Operand.tmp 32)), none⟩])
    (.reg false [⟨some 34, (Op.move (Operand.tmp 1)), none⟩,
      ⟨some 35, (Op.move (Operand.tmp 0)), none⟩,
      ⟨some 36, (Op.move (Operand.tmp 6)), none⟩,
      ⟨some 37, (Op.indexAddr 22 (Operand.tmp 35) (Operand.tmp 36)), none⟩,
      ⟨some 38, (Op.load 3 (Operand.tmp 37)), none⟩,
      ⟨some 39, (Op.binOp BinOp.quo 3 (Operand.tmp 34) (Operand.tmp 38) 3), none⟩,
      ⟨some 1, (Op.assign (Operand.tmp 39)), none⟩])))
    (.reg false [⟨some 23, (Op.move (Operand.tmp 6)), none⟩,
      ⟨some 24, (Op.binOp BinOp.sub 3 (Operand.tmp 23) (Operand.const (Value.int IntKind.i64 1)) 3), none⟩,
      ⟨some 6, (Op.assign (Operand.tmp 24)), none⟩]))))))
  (.seq (.reg false [⟨some 40, (Op.move (Operand.tmp 5)), none⟩,
    ⟨some 4, (Op.assign (Operand.tmp 40)), none⟩])
  .ret)))))
noncomputable def b98 : Code := Try.f98.body.getD .skip
theorem hb98 : Try.f98.body = some b98 := by kernel_rfl
theorem sh98 : shortC A98 b98 = c98 := by kernel_rfl
theorem ok98 : (okSlots Try.f98.ntmps b98 && okRecs A98 b98) = true := by kernel_rfl
def rs98 : List ResultVar := [(ResultVar.tmp 4)]
theorem hr98 : Try.f98.results.toList = rs98 := by kernel_rfl
/-! parquetry/parquetryref14.Of (2 parameters; calls 56 parquetry/parquetryref14.Right) -/
def A127 : Ann := { live := fun i => if i = 5 then [0, 1, 5, 18, 19] else [], drop := fun i => false }
noncomputable def c127 : Cc :=
  (.seq (.reg false [⟨some 4, (Op.assign (Operand.const (Value.int IntKind.i64 0))), none⟩])
  (.seq (.seq (.reg false [⟨some 7, (Op.move (Operand.tmp 0)), none⟩,
    ⟨some 8, (Op.call { callee := (Callee.value (Operand.func 56)), args := #[(Operand.tmp 7)], argTypes := #[22] }), none⟩,
    ⟨some 9, (Op.unOp UnOp.not 4 (Operand.tmp 8)), none⟩,
    ⟨some 10, (Op.move (Operand.tmp 9)), none⟩,
    ⟨some 11, (Op.move (Operand.tmp 1)), some (10, false)⟩,
    ⟨some 12, (Op.call { callee := (Callee.builtin Builtin.len), args := #[(Operand.tmp 11)], argTypes := #[22] }), some (10, false)⟩,
    ⟨some 13, (Op.move (Operand.tmp 0)), some (10, false)⟩,
    ⟨some 14, (Op.call { callee := (Callee.builtin Builtin.len), args := #[(Operand.tmp 13)], argTypes := #[22] }), some (10, false)⟩,
    ⟨some 15, (Op.binOp BinOp.neq 3 (Operand.tmp 12) (Operand.tmp 14) 3), some (10, false)⟩,
    ⟨some 16, (Op.pick (Operand.tmp 10) (Operand.const (Value.bool true)) (Operand.tmp 15)), none⟩])
  (.cond (Operand.tmp 16)
    (.seq (.reg false [⟨some 4, (Op.assign (Operand.const (Value.int IntKind.i64 (-1)))), none⟩])
    .ret)
    .skip))
  (.seq (.reg false [⟨some 5, (Op.assign (Operand.const (Value.int IntKind.i64 0))), none⟩])
  (.seq (.seq (.reg false [⟨some 17, (Op.move (Operand.tmp 0)), none⟩,
    ⟨some 18, (Op.call { callee := (Callee.builtin Builtin.len), args := #[(Operand.tmp 17)], argTypes := #[22] }), none⟩,
    ⟨some 19, (Op.move (Operand.const (Value.int IntKind.i64 0))), none⟩])
  (.block 0 (.loop [0, 1, 5, 18, 19] false
    (.seq (.reg false [⟨some 20, (Op.binOp BinOp.lss 3 (Operand.tmp 19) (Operand.tmp 18) 3), none⟩])
    (.seq (.cond (Operand.tmp 20)
      .skip
      (.exit 0))
    (.seq (.block 1 (.seq (.reg false [⟨some 21, (Op.move (Operand.tmp 19)), none⟩,
      ⟨some 6, (Op.assign (Operand.tmp 21)), none⟩])
    (.seq (.seq (.reg false [⟨some 22, (Op.move (Operand.tmp 1)), none⟩,
      ⟨some 23, (Op.move (Operand.tmp 6)), none⟩,
      ⟨some 24, (Op.indexAddr 22 (Operand.tmp 22) (Operand.tmp 23)), none⟩,
      ⟨some 25, (Op.load 3 (Operand.tmp 24)), none⟩,
      ⟨some 26, (Op.binOp BinOp.lss 3 (Operand.tmp 25) (Operand.const (Value.int IntKind.i64 0)) 3), none⟩,
      ⟨some 27, (Op.move (Operand.tmp 26)), none⟩,
      ⟨some 28, (Op.move (Operand.tmp 1)), some (27, false)⟩,
      ⟨some 29, (Op.move (Operand.tmp 6)), some (27, false)⟩,
      ⟨some 30, (Op.indexAddr 22 (Operand.tmp 28) (Operand.tmp 29)), some (27, false)⟩,
      ⟨some 31, (Op.load 3 (Operand.tmp 30)), some (27, false)⟩,
      ⟨some 32, (Op.move (Operand.tmp 0)), some (27, false)⟩,
      ⟨some 33, (Op.move (Operand.tmp 6)), some (27, false)⟩,
      ⟨some 34, (Op.indexAddr 22 (Operand.tmp 32) (Operand.tmp 33)), some (27, false)⟩,
      ⟨some 35, (Op.load 3 (Operand.tmp 34)), some (27, false)⟩,
      ⟨some 36, (Op.binOp BinOp.geq 3 (Operand.tmp 31) (Operand.tmp 35) 3), some (27, false)⟩,
      ⟨some 37, (Op.pick (Operand.tmp 27) (Operand.const (Value.bool true)) (Operand.tmp 36)), none⟩])
    (.cond (Operand.tmp 37)
      (.seq (.reg false [⟨some 4, (Op.assign (Operand.const (Value.int IntKind.i64 (-1)))), none⟩])
      .ret)
      .skip))
    (.reg false [⟨some 38, (Op.move (Operand.tmp 5)), none⟩,
      ⟨some 39, (Op.move (Operand.tmp 0)), none⟩,
      ⟨some 40, (Op.move (Operand.tmp 6)), none⟩,
      ⟨some 41, (Op.indexAddr 22 (Operand.tmp 39) (Operand.tmp 40)), none⟩,
      ⟨some 42, (Op.load 3 (Operand.tmp 41)), none⟩,
      ⟨some 43, (Op.binOp BinOp.mul 3 (Operand.tmp 38) (Operand.tmp 42) 3), none⟩,
      ⟨some 44, (Op.move (Operand.tmp 1)), none⟩,
      ⟨some 45, (Op.move (Operand.tmp 6)), none⟩,
      ⟨some 46, (Op.indexAddr 22 (Operand.tmp 44) (Operand.tmp 45)), none⟩,
      ⟨some 47, (Op.load 3 (Operand.tmp 46)), none⟩,
      ⟨some 48, (Op.binOp BinOp.add 3 (Operand.tmp 43) (Operand.tmp 47) 3), none⟩,
      ⟨some 5, (Op.assign (Operand.tmp 48)), none⟩]))))
    (.reg false [⟨some 49, (Op.binOp BinOp.add 3 (Operand.tmp 19) (Operand.const (Value.int IntKind.i64 1)) 3), none⟩,
      ⟨some 19, (Op.move (Operand.tmp 49)), none⟩])))))))
  (.seq (.reg false [⟨some 50, (Op.move (Operand.tmp 5)), none⟩,
    ⟨some 4, (Op.assign (Operand.tmp 50)), none⟩])
  .ret)))))
noncomputable def b127 : Code := Try.f127.body.getD .skip
theorem hb127 : Try.f127.body = some b127 := by kernel_rfl
theorem sh127 : shortC A127 b127 = c127 := by kernel_rfl
theorem ok127 : (okSlots Try.f127.ntmps b127 && okRecs A127 b127) = true := by kernel_rfl
def rs127 : List ResultVar := [(ResultVar.tmp 4)]
theorem hr127 : Try.f127.results.toList = rs127 := by kernel_rfl
/-! parquetry/parquetryref14.First (3 parameters; calls 20 parquetry/parquetryref14.Devices, 58 parquetry/parquetryref14.Spec, 98 parquetry/parquetryref14.At, 127 parquetry/parquetryref14.Of) -/
def A67 : Ann := { live := fun i => if i = 5 then [0, 1, 7, 31, 32] else if i = 9 then [0, 1, 7, 8, 9, 31, 32, 36, 37] else [], drop := fun i => false }
noncomputable def c67 : Cc :=
  (.seq (.reg false [⟨some 6, (Op.assign (Operand.const (Value.int IntKind.i64 0))), none⟩])
  (.seq (.seq (.reg false [⟨some 11, (Op.move (Operand.tmp 2)), none⟩,
    ⟨some 12, (Op.binOp BinOp.lss 3 (Operand.tmp 11) (Operand.const (Value.int IntKind.i64 0)) 3), none⟩,
    ⟨some 13, (Op.move (Operand.tmp 12)), none⟩,
    ⟨some 14, (Op.move (Operand.tmp 2)), some (13, false)⟩,
    ⟨some 15, (Op.move (Operand.tmp 0)), some (13, false)⟩,
    ⟨some 16, (Op.call { callee := (Callee.value (Operand.func 20)), args := #[(Operand.tmp 15)], argTypes := #[22] }), some (13, false)⟩,
    ⟨some 17, (Op.binOp BinOp.geq 3 (Operand.tmp 14) (Operand.tmp 16) 3), some (13, false)⟩,
    ⟨some 18, (Op.pick (Operand.tmp 13) (Operand.const (Value.bool true)) (Operand.tmp 17)), none⟩,
    ⟨some 19, (Op.move (Operand.tmp 18)), none⟩,
    ⟨some 20, (Op.move (Operand.tmp 0)), some (19, false)⟩,
    ⟨some 21, (Op.move (Operand.tmp 1)), some (19, false)⟩,
    ⟨some 22, (Op.move (Operand.tmp 1)), some (19, false)⟩,
    ⟨some 23, (Op.call { callee := (Callee.builtin Builtin.len), args := #[(Operand.tmp 22)], argTypes := #[22] }), some (19, false)⟩,
    ⟨some 24, (Op.call { callee := (Callee.value (Operand.func 58)), args := #[(Operand.tmp 20), (Operand.tmp 21), (Operand.tmp 23)], argTypes := #[22, 22, 3] }), some (19, false)⟩,
    ⟨some 25, (Op.unOp UnOp.not 4 (Operand.tmp 24)), some (19, false)⟩,
    ⟨some 26, (Op.pick (Operand.tmp 19) (Operand.const (Value.bool true)) (Operand.tmp 25)), none⟩])
  (.cond (Operand.tmp 26)
    (.seq (.reg false [⟨some 6, (Op.assign (Operand.const (Value.int IntKind.i64 (-1)))), none⟩])
    .ret)
    .skip))
  (.seq (.reg false [⟨some 27, (Op.move (Operand.tmp 0)), none⟩,
    ⟨some 28, (Op.move (Operand.tmp 2)), none⟩,
    ⟨some 29, (Op.call { callee := (Callee.value (Operand.func 98)), args := #[(Operand.tmp 27), (Operand.tmp 28)], argTypes := #[22, 3] }), none⟩,
    ⟨some 7, (Op.assign (Operand.tmp 29)), none⟩])
  (.seq (.seq (.reg false [⟨some 30, (Op.move (Operand.tmp 7)), none⟩,
    ⟨some 31, (Op.call { callee := (Callee.builtin Builtin.len), args := #[(Operand.tmp 30)], argTypes := #[22] }), none⟩,
    ⟨some 32, (Op.move (Operand.const (Value.int IntKind.i64 0))), none⟩])
  (.block 0 (.loop [0, 1, 7, 31, 32] false
    (.seq (.reg false [⟨some 33, (Op.binOp BinOp.lss 3 (Operand.tmp 32) (Operand.tmp 31) 3), none⟩])
    (.seq (.cond (Operand.tmp 33)
      .skip
      (.exit 0))
    (.seq (.block 1 (.seq (.reg false [⟨some 34, (Op.move (Operand.tmp 32)), none⟩,
      ⟨some 8, (Op.assign (Operand.tmp 34)), none⟩])
    (.seq (.reg false [⟨some 9, (Op.assign (Operand.const (Value.bool false))), none⟩])
    (.seq (.seq (.reg false [⟨some 35, (Op.move (Operand.tmp 1)), none⟩,
      ⟨some 36, (Op.call { callee := (Callee.builtin Builtin.len), args := #[(Operand.tmp 35)], argTypes := #[22] }), none⟩,
      ⟨some 37, (Op.move (Operand.const (Value.int IntKind.i64 0))), none⟩])
    (.block 2 (.loop [0, 1, 7, 8, 9, 31, 32, 36, 37] false
      (.seq (.reg false [⟨some 38, (Op.binOp BinOp.lss 3 (Operand.tmp 37) (Operand.tmp 36) 3), none⟩])
      (.seq (.cond (Operand.tmp 38)
        .skip
        (.exit 2))
      (.seq (.block 3 (.seq (.reg false [⟨some 39, (Op.move (Operand.tmp 37)), none⟩,
        ⟨some 10, (Op.assign (Operand.tmp 39)), none⟩])
      (.reg false [⟨some 40, (Op.move (Operand.tmp 9)), none⟩,
        ⟨some 41, (Op.move (Operand.tmp 40)), none⟩,
        ⟨some 42, (Op.move (Operand.tmp 1)), some (41, false)⟩,
        ⟨some 43, (Op.move (Operand.tmp 10)), some (41, false)⟩,
        ⟨some 44, (Op.indexAddr 22 (Operand.tmp 42) (Operand.tmp 43)), some (41, false)⟩,
        ⟨some 45, (Op.load 3 (Operand.tmp 44)), some (41, false)⟩,
        ⟨some 46, (Op.move (Operand.tmp 8)), some (41, false)⟩,
        ⟨some 47, (Op.binOp BinOp.eql 3 (Operand.tmp 45) (Operand.tmp 46) 3), some (41, false)⟩,
        ⟨some 48, (Op.pick (Operand.tmp 41) (Operand.const (Value.bool true)) (Operand.tmp 47)), none⟩,
        ⟨some 9, (Op.assign (Operand.tmp 48)), none⟩])))
      (.reg false [⟨some 49, (Op.binOp BinOp.add 3 (Operand.tmp 37) (Operand.const (Value.int IntKind.i64 1)) 3), none⟩,
        ⟨some 37, (Op.move (Operand.tmp 49)), none⟩])))))))
    (.seq (.reg false [⟨some 50, (Op.move (Operand.tmp 9)), none⟩,
      ⟨some 51, (Op.unOp UnOp.not 4 (Operand.tmp 50)), none⟩])
    (.cond (Operand.tmp 51)
      (.reg false [⟨some 52, (Op.move (Operand.tmp 7)), none⟩,
        ⟨some 53, (Op.move (Operand.tmp 8)), none⟩,
        ⟨some 54, (Op.indexAddr 22 (Operand.tmp 52) (Operand.tmp 53)), none⟩,
        ⟨none, (Op.store 3 (Operand.tmp 54) (Operand.const (Value.int IntKind.i64 0))), none⟩])
      .skip))))))
    (.reg false [⟨some 55, (Op.binOp BinOp.add 3 (Operand.tmp 32) (Operand.const (Value.int IntKind.i64 1)) 3), none⟩,
      ⟨some 32, (Op.move (Operand.tmp 55)), none⟩])))))))
  (.seq (.reg false [⟨some 56, (Op.move (Operand.tmp 0)), none⟩,
    ⟨some 57, (Op.move (Operand.tmp 7)), none⟩,
    ⟨some 58, (Op.call { callee := (Callee.value (Operand.func 127)), args := #[(Operand.tmp 56), (Operand.tmp 57)], argTypes := #[22, 22] }), none⟩,
    ⟨some 6, (Op.assign (Operand.tmp 58)), none⟩])
  .ret)))))
noncomputable def b67 : Code := Try.f67.body.getD .skip
theorem hb67 : Try.f67.body = some b67 := by kernel_rfl
theorem sh67 : shortC A67 b67 = c67 := by kernel_rfl
theorem ok67 : (okSlots Try.f67.ntmps b67 && okRecs A67 b67) = true := by kernel_rfl
def rs67 : List ResultVar := [(ResultVar.tmp 6)]
theorem hr67 : Try.f67.results.toList = rs67 := by kernel_rfl
/- Walks: where a device is, in the document; slices.Equal; the least device that has the same part. -/
def F98 (args : List AV) (H : Hp) : Option (AV × Hp) := match args with
  | [a, .int .i64 d] => (ints H a).map fun sz => if d < 0 ∨ devs sz ≤ d then (.nilS, H) else mkF H (meshAt sz d)
  | _ => none
set_option maxHeartbeats 1000000 in
theorem snd98 : Sound Try.prog 98 (FSem.eff F98).run := by
  refine sound_of hT (EOK_cons snd20 (EOK_nil _)) mixed A98 Try.func98 hb98 (by kernel_rfl) (by kernel_rfl) (by kernel_rfl) (by kernel_rfl) sh98 2 (by kernel_rfl) rs98 hr98 ?_
  intro args H r H' hw h
  have hv : F98 args H = some (r, H') := h
  clear h
  unfold F98 at hv
  split at hv
  · rename_i v d
    obtain ⟨l, hl, hv⟩ := Option.map_eq_some_iff.1 hv
    have hlen := alenS_ints hl
    have hrd := rDevs_eq l
    have hb := ints_len hl
    have hix := aidxS_ints hl .i64
    have hld := fun {H1 : Hp} (he : Pre H H1) => aload_nth T3 rfl (ints_ext he hl)
    refine ⟨rfl, go ?_⟩
    unfold c98
    simp only [argSl]
    simp only [← aidx22, ← alen22] at hix hlen
    replace hv := Hide.mk hv
    repeat' (first | apply goSeq | apply goReg | apply goSeqN | apply goSeqR | apply goSkip | apply goRet | apply goNil | apply goBlock | apply goExit | apply goBlkN | apply goBlkR | apply goBlkE | apply goSeqE | apply goLoopR | apply goLoopE | (apply goOp; (· (simp [*]; try exact rfl)); (· exact rfl)) | (apply goOp0; (· (simp [*]; try exact rfl)); (· exact rfl)) | (apply goYes; (· (simp [*]; done)); (· (simp [*]; try exact rfl)); (· exact rfl)) | (apply goNo; (· (simp [*]; done))) | (apply goNoU; (· (simp; exact rfl))) | (apply goIfT; (· (simp [*]; done))) | (apply goIfF; (· (simp [*]; done))) | (apply goIf; (· (simp; exact rfl)); (· with_reducible exact rfl)) | (apply goSplit; (· (simp; exact rfl)); (· with_reducible exact rfl)) | (apply goIfQ; (· (simp; exact rfl)); (· exact rfl)) | (apply goSplitQ; (· (simp; exact rfl)); (· exact rfl)) | (apply goBlkX; (· rfl)) | intro _)
    · rename_i h1
      replace hv := hv.out
      rw [if_pos (.inl h1)] at hv
      exact goEndS (l := []) hw (Ext.refl hw) (.inl ⟨rfl, rfl⟩) (by simp) (by simp [rs98]) rfl hv
    · rename_i h1 h2
      replace hv := hv.out
      rw [if_pos (.inr h2)] at hv
      exact goEndS (l := []) hw (Ext.refl hw) (.inl ⟨rfl, rfl⟩) (by simp) (by simp [rs98]) rfl hv
    · rename_i h1 h2
      replace hv := hv.out
      rw [if_neg (by omega)] at hv
      have hm : meshOK l = true := by
        rcases hmm : meshOK l with _ | _
        · exfalso; simp [devs, hmm] at h2; omega
        · rfl
      obtain ⟨h3, hpos⟩ := meshOK_pos hm
      obtain ⟨u, H1, e, ho, he⟩ := make_own (Ext.refl hw) l.length (by omega)
      refine goOp (v := u) (H' := H1) rfl (by simp; exact e) ?_
      replace hv := Hide.mk hv
      repeat' (first | apply goSeq | apply goReg | apply goSeqN | apply goSeqR | apply goSkip | apply goRet | apply goNil | apply goBlock | apply goExit | apply goBlkN | apply goBlkR | apply goBlkE | apply goSeqE | apply goLoopR | apply goLoopE | (apply goOp; (· (simp [*]; try exact rfl)); (· exact rfl)) | (apply goOp0; (· (simp [*]; try exact rfl)); (· exact rfl)) | (apply goYes; (· (simp [*]; done)); (· (simp [*]; try exact rfl)); (· exact rfl)) | (apply goNo; (· (simp [*]; done))) | (apply goNoU; (· (simp; exact rfl))) | (apply goIfT; (· (simp [*]; done))) | (apply goIfF; (· (simp [*]; done))) | (apply goIf; (· (simp; exact rfl)); (· with_reducible exact rfl)) | (apply goSplit; (· (simp; exact rfl)); (· with_reducible exact rfl)) | (apply goIfQ; (· (simp; exact rfl)); (· exact rfl)) | (apply goSplitQ; (· (simp; exact rfl)); (· exact rfl)) | (apply goBlkX; (· rfl)) | intro _)
      have hwl : w ((l.length : Int) - 1) = (l.length : Int) - 1 := w_id (by omega)
      rw [hwl]
      refine goLoop (fun m s1 H1 => Ext H H1 ∧ ∃ (d1 : Int) (out : List Int) (u : AV), m ≤ l.length ∧ get s1 0 = v ∧ get s1 1 = .int .i64 d1 ∧ get s1 5 = u ∧ get s1 6 = .int .i64 ((m : Int) - 1) ∧ OwnF H H1 u out ∧ out.length = l.length ∧ atW l m d1 out = meshAt l d) l.length ?_ ?_
      · exact ⟨he, d, _, u, Nat.le_refl _, rfl, rfl, rfl, rfl, ho, by simp, rfl⟩
      · clear he ho e hwl h1 h2 hm
        rintro m s1 H1 ⟨he, d1, out, u, hi, g1, g2, g3, g4, ho, hol, hgo⟩
        have hixu := aidxS_ints (ints_of_ownF ho (by omega)) .i64
        simp only [← aidx22] at hixu
        have hl1 := hld he.pre
        cases m with
        | zero =>
          simp only [cut_cons, cut_nil, g1, g2, g3, g4]
          clear g1 g2 g3 g4
          replace ho := Hide.mk ho
          replace hgo := Hide.mk hgo
          repeat' (first | apply goSeq | apply goReg | apply goSeqN | apply goSeqR | apply goSkip | apply goRet | apply goNil | apply goBlock | apply goExit | apply goBlkN | apply goBlkR | apply goBlkE | apply goSeqE | apply goLoopR | apply goLoopE | (apply goOp; (· (simp [*]; try exact rfl)); (· exact rfl)) | (apply goOp0; (· (simp [*]; try exact rfl)); (· exact rfl)) | (apply goYes; (· (simp [*]; done)); (· (simp [*]; try exact rfl)); (· exact rfl)) | (apply goNo; (· (simp [*]; done))) | (apply goNoU; (· (simp; exact rfl))) | (apply goIfT; (· (simp [*]; done))) | (apply goIfF; (· (simp [*]; done))) | (apply goIf; (· (simp; exact rfl)); (· with_reducible exact rfl)) | (apply goSplit; (· (simp; exact rfl)); (· with_reducible exact rfl)) | (apply goIfQ; (· (simp; exact rfl)); (· exact rfl)) | (apply goSplitQ; (· (simp; exact rfl)); (· exact rfl)) | (apply goBlkX; (· rfl)) | intro _)
          refine goEndF hw he ho.out (by simp) (by simp [rs98]) rfl ?_
          rw [← hv.out, ← hgo.out]
          rfl
        | succ m =>
          rw [show (((m + 1 : Nat) : Int) - 1) = (m : Int) by omega] at g4
          simp only [cut_cons, cut_nil, g1, g2, g3, g4]
          clear g1 g2 g3 g4
          have hm0 : (0 : Int) ≤ m := Int.natCast_nonneg m
          have hml : m < l.length := by omega
          have hne : ¬ nth l m = 0 := by have := hpos m hml; omega
          have hwm : w ((m : Int) - 1) = (m : Int) - 1 := w_id (by omega)
          replace ho := Hide.mk ho
          replace hgo := Hide.mk hgo
          repeat' (first | apply goSeq | apply goReg | apply goSeqN | apply goSeqR | apply goSkip | apply goRet | apply goNil | apply goBlock | apply goExit | apply goBlkN | apply goBlkR | apply goBlkE | apply goSeqE | apply goLoopR | apply goLoopE | (apply goOp; (· (simp [*]; try exact rfl)); (· exact rfl)) | (apply goOp0; (· (simp [*]; try exact rfl)); (· exact rfl)) | (apply goYes; (· (simp [*]; done)); (· (simp [*]; try exact rfl)); (· exact rfl)) | (apply goNo; (· (simp [*]; done))) | (apply goNoU; (· (simp; exact rfl))) | (apply goIfT; (· (simp [*]; done))) | (apply goIfF; (· (simp [*]; done))) | (apply goIf; (· (simp; exact rfl)); (· with_reducible exact rfl)) | (apply goSplit; (· (simp; exact rfl)); (· with_reducible exact rfl)) | (apply goIfQ; (· (simp; exact rfl)); (· exact rfl)) | (apply goSplitQ; (· (simp; exact rfl)); (· exact rfl)) | (apply goBlkX; (· rfl)) | intro _)
          obtain ⟨H2, e, ho', he'⟩ := store_own hw he ho.out m (by omega) (d1.tmod (nth l m))
          have hl2 := hld he'.pre
          refine goOp0 (v := .bad) (H' := H2) rfl (by simp [e]) ?_
          replace ho' := Hide.mk ho'
          clear e
          repeat' (first | apply goSeq | apply goReg | apply goSeqN | apply goSeqR | apply goSkip | apply goRet | apply goNil | apply goBlock | apply goExit | apply goBlkN | apply goBlkR | apply goBlkE | apply goSeqE | apply goLoopR | apply goLoopE | (apply goOp; (· (simp [*]; try exact rfl)); (· exact rfl)) | (apply goOp0; (· (simp [*]; try exact rfl)); (· exact rfl)) | (apply goYes; (· (simp [*]; done)); (· (simp [*]; try exact rfl)); (· exact rfl)) | (apply goNo; (· (simp [*]; done))) | (apply goNoU; (· (simp; exact rfl))) | (apply goIfT; (· (simp [*]; done))) | (apply goIfF; (· (simp [*]; done))) | (apply goIf; (· (simp; exact rfl)); (· with_reducible exact rfl)) | (apply goSplit; (· (simp; exact rfl)); (· with_reducible exact rfl)) | (apply goIfQ; (· (simp; exact rfl)); (· exact rfl)) | (apply goSplitQ; (· (simp; exact rfl)); (· exact rfl)) | (apply goBlkX; (· rfl)) | intro _)
          exact goLoopN m (by omega) ⟨he', _, _, u, by omega, rfl, rfl, rfl, rfl, ho'.out, by simp [hol], by rw [← hgo.out]; rfl⟩
  · cases hv
@[simp] theorem F98_at (a : AV) (d : Int) (H : Hp) : F98 [a, .int .i64 d] H = (ints H a).map fun sz => if d < 0 ∨ devs sz ≤ d then (.nilS, H) else mkF H (meshAt sz d) := rfl
/- Functions in short form. -/
/-! parquetry/parquetryref14.may (3 parameters; calls 56 parquetry/parquetryref14.Right, 58 parquetry/parquetryref14.Spec, 101 parquetry/parquetryref1.Right) -/
def A85 : Ann := { drop := fun i => false }
noncomputable def c85 : Cc :=
  (.seq (.reg false [⟨some 6, (Op.assign (Operand.const (Value.bool false))), none⟩])
  (.seq (.reg false [⟨some 7, (Op.move (Operand.tmp 0)), none⟩,
    ⟨some 8, (Op.call { callee := (Callee.value (Operand.func 101)), args := #[(Operand.tmp 7)], argTypes := #[22] }), none⟩,
    ⟨some 9, (Op.move (Operand.tmp 8)), none⟩,
    ⟨some 10, (Op.move (Operand.tmp 1)), some (9, true)⟩,
    ⟨some 11, (Op.call { callee := (Callee.value (Operand.func 56)), args := #[(Operand.tmp 10)], argTypes := #[22] }), some (9, true)⟩,
    ⟨some 12, (Op.pick (Operand.tmp 9) (Operand.tmp 11) (Operand.const (Value.bool false))), none⟩,
    ⟨some 13, (Op.move (Operand.tmp 12)), none⟩,
    ⟨some 14, (Op.move (Operand.tmp 1)), some (13, true)⟩,
    ⟨some 15, (Op.move (Operand.tmp 2)), some (13, true)⟩,
    ⟨some 16, (Op.move (Operand.tmp 0)), some (13, true)⟩,
    ⟨some 17, (Op.call { callee := (Callee.builtin Builtin.len), args := #[(Operand.tmp 16)], argTypes := #[22] }), some (13, true)⟩,
    ⟨some 18, (Op.call { callee := (Callee.value (Operand.func 58)), args := #[(Operand.tmp 14), (Operand.tmp 15), (Operand.tmp 17)], argTypes := #[22, 22, 3] }), some (13, true)⟩,
    ⟨some 19, (Op.pick (Operand.tmp 13) (Operand.tmp 18) (Operand.const (Value.bool false))), none⟩,
    ⟨some 6, (Op.assign (Operand.tmp 19)), none⟩])
  .ret))
noncomputable def b85 : Code := Try.f85.body.getD .skip
theorem hb85 : Try.f85.body = some b85 := by kernel_rfl
theorem sh85 : shortC A85 b85 = c85 := by kernel_rfl
theorem ok85 : (okSlots Try.f85.ntmps b85 && okRecs A85 b85) = true := by kernel_rfl
def rs85 : List ResultVar := [(ResultVar.tmp 6)]
theorem hr85 : Try.f85.results.toList = rs85 := by kernel_rfl
/-! parquetry/parquetryref14.Width (2 parameters; calls none) -/
def A140 : Ann := { drop := fun i => false }
noncomputable def c140 : Cc :=
  (.seq (.reg false [⟨some 4, (Op.assign (Operand.const (Value.int IntKind.i64 0))), none⟩])
  (.seq (.seq (.reg false [⟨some 6, (Op.move (Operand.tmp 0)), none⟩,
    ⟨some 7, (Op.binOp BinOp.lss 3 (Operand.tmp 6) (Operand.const (Value.int IntKind.i64 0)) 3), none⟩,
    ⟨some 8, (Op.move (Operand.tmp 7)), none⟩,
    ⟨some 9, (Op.move (Operand.tmp 1)), some (8, false)⟩,
    ⟨some 10, (Op.binOp BinOp.lss 3 (Operand.tmp 9) (Operand.const (Value.int IntKind.i64 1)) 3), some (8, false)⟩,
    ⟨some 11, (Op.pick (Operand.tmp 8) (Operand.const (Value.bool true)) (Operand.tmp 10)), none⟩])
  (.cond (Operand.tmp 11)
    (.seq (.reg false [⟨some 4, (Op.assign (Operand.const (Value.int IntKind.i64 0))), none⟩])
    .ret)
    .skip))
  (.seq (.reg false [⟨some 12, (Op.move (Operand.tmp 0)), none⟩,
    ⟨some 13, (Op.move (Operand.tmp 1)), none⟩,
    ⟨some 14, (Op.binOp BinOp.quo 3 (Operand.tmp 12) (Operand.tmp 13) 3), none⟩,
    ⟨some 5, (Op.assign (Operand.tmp 14)), none⟩])
  (.seq (.seq (.reg false [⟨some 15, (Op.move (Operand.tmp 0)), none⟩,
    ⟨some 16, (Op.move (Operand.tmp 1)), none⟩,
    ⟨some 17, (Op.binOp BinOp.rem 3 (Operand.tmp 15) (Operand.tmp 16) 3), none⟩,
    ⟨some 18, (Op.binOp BinOp.gtr 3 (Operand.tmp 17) (Operand.const (Value.int IntKind.i64 0)) 3), none⟩])
  (.cond (Operand.tmp 18)
    (.reg false [⟨some 19, (Op.move (Operand.tmp 5)), none⟩,
      ⟨some 20, (Op.binOp BinOp.add 3 (Operand.tmp 19) (Operand.const (Value.int IntKind.i64 1)) 3), none⟩,
      ⟨some 5, (Op.assign (Operand.tmp 20)), none⟩])
    .skip))
  (.seq (.reg false [⟨some 21, (Op.move (Operand.tmp 5)), none⟩,
    ⟨some 4, (Op.assign (Operand.tmp 21)), none⟩])
  .ret)))))
noncomputable def b140 : Code := Try.f140.body.getD .skip
theorem hb140 : Try.f140.body = some b140 := by kernel_rfl
theorem sh140 : shortC A140 b140 = c140 := by kernel_rfl
theorem ok140 : (okSlots Try.f140.ntmps b140 && okRecs A140 b140) = true := by kernel_rfl
def rs140 : List ResultVar := [(ResultVar.tmp 4)]
theorem hr140 : Try.f140.results.toList = rs140 := by kernel_rfl
/-! parquetry/parquetryref14.Cut (3 parameters; calls 140 parquetry/parquetryref14.Width) -/
def A99 : Ann := { drop := fun i => false }
noncomputable def c99 : Cc :=
  (.seq (.reg false [⟨some 6, (Op.assign (Operand.const (Value.int IntKind.i64 0))), none⟩,
    ⟨some 7, (Op.assign (Operand.const (Value.int IntKind.i64 0))), none⟩])
  (.seq (.seq (.reg false [⟨some 11, (Op.move (Operand.tmp 0)), none⟩,
    ⟨some 12, (Op.binOp BinOp.lss 3 (Operand.tmp 11) (Operand.const (Value.int IntKind.i64 0)) 3), none⟩,
    ⟨some 13, (Op.move (Operand.tmp 12)), none⟩,
    ⟨some 14, (Op.move (Operand.tmp 1)), some (13, false)⟩,
    ⟨some 15, (Op.binOp BinOp.lss 3 (Operand.tmp 14) (Operand.const (Value.int IntKind.i64 1)) 3), some (13, false)⟩,
    ⟨some 16, (Op.pick (Operand.tmp 13) (Operand.const (Value.bool true)) (Operand.tmp 15)), none⟩,
    ⟨some 17, (Op.move (Operand.tmp 16)), none⟩,
    ⟨some 18, (Op.move (Operand.tmp 2)), some (17, false)⟩,
    ⟨some 19, (Op.binOp BinOp.lss 3 (Operand.tmp 18) (Operand.const (Value.int IntKind.i64 0)) 3), some (17, false)⟩,
    ⟨some 20, (Op.pick (Operand.tmp 17) (Operand.const (Value.bool true)) (Operand.tmp 19)), none⟩,
    ⟨some 21, (Op.move (Operand.tmp 20)), none⟩,
    ⟨some 22, (Op.move (Operand.tmp 2)), some (21, false)⟩,
    ⟨some 23, (Op.move (Operand.tmp 1)), some (21, false)⟩,
    ⟨some 24, (Op.binOp BinOp.geq 3 (Operand.tmp 22) (Operand.tmp 23) 3), some (21, false)⟩,
    ⟨some 25, (Op.pick (Operand.tmp 21) (Operand.const (Value.bool true)) (Operand.tmp 24)), none⟩])
  (.cond (Operand.tmp 25)
    (.seq (.reg false [⟨some 6, (Op.assign (Operand.const (Value.int IntKind.i64 0))), none⟩,
      ⟨some 7, (Op.assign (Operand.const (Value.int IntKind.i64 0))), none⟩])
    .ret)
    .skip))
  (.seq (.reg false [⟨some 26, (Op.move (Operand.tmp 0)), none⟩,
    ⟨some 27, (Op.move (Operand.tmp 1)), none⟩,
    ⟨some 28, (Op.call { callee := (Callee.value (Operand.func 140)), args := #[(Operand.tmp 26), (Operand.tmp 27)], argTypes := #[3, 3] }), none⟩,
    ⟨some 8, (Op.assign (Operand.tmp 28)), none⟩])
  (.seq (.reg false [⟨some 29, (Op.move (Operand.tmp 0)), none⟩,
    ⟨some 9, (Op.assign (Operand.tmp 29)), none⟩])
  (.seq (.seq (.reg false [⟨some 30, (Op.move (Operand.tmp 8)), none⟩,
    ⟨some 31, (Op.binOp BinOp.eql 3 (Operand.tmp 30) (Operand.const (Value.int IntKind.i64 0)) 3), none⟩,
    ⟨some 32, (Op.move (Operand.tmp 31)), none⟩,
    ⟨some 33, (Op.move (Operand.tmp 2)), some (32, false)⟩,
    ⟨some 34, (Op.move (Operand.tmp 0)), some (32, false)⟩,
    ⟨some 35, (Op.move (Operand.tmp 8)), some (32, false)⟩,
    ⟨some 36, (Op.binOp BinOp.quo 3 (Operand.tmp 34) (Operand.tmp 35) 3), some (32, false)⟩,
    ⟨some 37, (Op.binOp BinOp.leq 3 (Operand.tmp 33) (Operand.tmp 36) 3), some (32, false)⟩,
    ⟨some 38, (Op.pick (Operand.tmp 32) (Operand.const (Value.bool true)) (Operand.tmp 37)), none⟩])
  (.cond (Operand.tmp 38)
    (.reg false [⟨some 39, (Op.move (Operand.tmp 2)), none⟩,
      ⟨some 40, (Op.move (Operand.tmp 8)), none⟩,
      ⟨some 41, (Op.binOp BinOp.mul 3 (Operand.tmp 39) (Operand.tmp 40) 3), none⟩,
      ⟨some 42, (Op.move (Operand.tmp 0)), none⟩,
      ⟨some 43, (Op.call { callee := (Callee.builtin Builtin.min), args := #[(Operand.tmp 41), (Operand.tmp 42)], argTypes := #[3, 3] }), none⟩,
      ⟨some 9, (Op.assign (Operand.tmp 43)), none⟩])
    .skip))
  (.seq (.reg false [⟨some 44, (Op.move (Operand.tmp 0)), none⟩,
    ⟨some 10, (Op.assign (Operand.tmp 44)), none⟩])
  (.seq (.seq (.reg false [⟨some 45, (Op.move (Operand.tmp 8)), none⟩,
    ⟨some 46, (Op.move (Operand.tmp 0)), none⟩,
    ⟨some 47, (Op.move (Operand.tmp 9)), none⟩,
    ⟨some 48, (Op.binOp BinOp.sub 3 (Operand.tmp 46) (Operand.tmp 47) 3), none⟩,
    ⟨some 49, (Op.binOp BinOp.leq 3 (Operand.tmp 45) (Operand.tmp 48) 3), none⟩])
  (.cond (Operand.tmp 49)
    (.reg false [⟨some 50, (Op.move (Operand.tmp 9)), none⟩,
      ⟨some 51, (Op.move (Operand.tmp 8)), none⟩,
      ⟨some 52, (Op.binOp BinOp.add 3 (Operand.tmp 50) (Operand.tmp 51) 3), none⟩,
      ⟨some 10, (Op.assign (Operand.tmp 52)), none⟩])
    .skip))
  (.seq (.reg false [⟨some 53, (Op.move (Operand.tmp 9)), none⟩,
    ⟨some 54, (Op.move (Operand.tmp 10)), none⟩,
    ⟨some 6, (Op.assign (Operand.tmp 53)), none⟩,
    ⟨some 7, (Op.assign (Operand.tmp 54)), none⟩])
  .ret))))))))
noncomputable def b99 : Code := Try.f99.body.getD .skip
theorem hb99 : Try.f99.body = some b99 := by kernel_rfl
theorem sh99 : shortC A99 b99 = c99 := by kernel_rfl
theorem ok99 : (okSlots Try.f99.ntmps b99 && okRecs A99 b99) = true := by kernel_rfl
def rs99 : List ResultVar := [(ResultVar.tmp 6), (ResultVar.tmp 7)]
theorem hr99 : Try.f99.results.toList = rs99 := by kernel_rfl
/-! parquetry/parquetryref14.Tile (4 parameters; calls 20 parquetry/parquetryref14.Devices, 85 parquetry/parquetryref14.may, 98 parquetry/parquetryref14.At, 99 parquetry/parquetryref14.Cut) -/
def A40 : Ann := { live := fun i => if i = 6 then [0, 1, 2, 10, 11, 12, 35, 36] else [], drop := fun i => false }
noncomputable def c40 : Cc :=
  (.seq (.reg false [⟨some 8, (Op.assign (Operand.const (Value.slice none 0 0))), none⟩,
    ⟨some 9, (Op.assign (Operand.const (Value.slice none 0 0))), none⟩])
  (.seq (.seq (.reg false [⟨some 16, (Op.move (Operand.tmp 0)), none⟩,
    ⟨some 17, (Op.move (Operand.tmp 1)), none⟩,
    ⟨some 18, (Op.move (Operand.tmp 2)), none⟩,
    ⟨some 19, (Op.call { callee := (Callee.value (Operand.func 85)), args := #[(Operand.tmp 16), (Operand.tmp 17), (Operand.tmp 18)], argTypes := #[22, 22, 22] }), none⟩,
    ⟨some 20, (Op.unOp UnOp.not 4 (Operand.tmp 19)), none⟩,
    ⟨some 21, (Op.move (Operand.tmp 20)), none⟩,
    ⟨some 22, (Op.move (Operand.tmp 3)), some (21, false)⟩,
    ⟨some 23, (Op.binOp BinOp.lss 3 (Operand.tmp 22) (Operand.const (Value.int IntKind.i64 0)) 3), some (21, false)⟩,
    ⟨some 24, (Op.pick (Operand.tmp 21) (Operand.const (Value.bool true)) (Operand.tmp 23)), none⟩,
    ⟨some 25, (Op.move (Operand.tmp 24)), none⟩,
    ⟨some 26, (Op.move (Operand.tmp 3)), some (25, false)⟩,
    ⟨some 27, (Op.move (Operand.tmp 1)), some (25, false)⟩,
    ⟨some 28, (Op.call { callee := (Callee.value (Operand.func 20)), args := #[(Operand.tmp 27)], argTypes := #[22] }), some (25, false)⟩,
    ⟨some 29, (Op.binOp BinOp.geq 3 (Operand.tmp 26) (Operand.tmp 28) 3), some (25, false)⟩,
    ⟨some 30, (Op.pick (Operand.tmp 25) (Operand.const (Value.bool true)) (Operand.tmp 29)), none⟩])
  (.cond (Operand.tmp 30)
    (.seq (.reg false [⟨some 8, (Op.assign (Operand.const (Value.slice none 0 0))), none⟩,
      ⟨some 9, (Op.assign (Operand.const (Value.slice none 0 0))), none⟩])
    .ret)
    .skip))
  (.seq (.reg false [⟨some 31, (Op.move (Operand.tmp 1)), none⟩,
    ⟨some 32, (Op.move (Operand.tmp 3)), none⟩,
    ⟨some 33, (Op.call { callee := (Callee.value (Operand.func 98)), args := #[(Operand.tmp 31), (Operand.tmp 32)], argTypes := #[22, 3] }), none⟩,
    ⟨some 10, (Op.assign (Operand.tmp 33)), none⟩])
  (.seq (.reg false [⟨some 11, (Op.assign (Operand.const (Value.slice none 0 0))), none⟩,
    ⟨some 12, (Op.assign (Operand.const (Value.slice none 0 0))), none⟩])
  (.seq (.seq (.reg false [⟨some 34, (Op.move (Operand.tmp 0)), none⟩,
    ⟨some 35, (Op.call { callee := (Callee.builtin Builtin.len), args := #[(Operand.tmp 34)], argTypes := #[22] }), none⟩,
    ⟨some 36, (Op.move (Operand.const (Value.int IntKind.i64 0))), none⟩])
  (.block 0 (.loop [0, 1, 2, 10, 11, 12, 35, 36] false
    (.seq (.reg false [⟨some 37, (Op.binOp BinOp.lss 3 (Operand.tmp 36) (Operand.tmp 35) 3), none⟩])
    (.seq (.cond (Operand.tmp 37)
      .skip
      (.exit 0))
    (.seq (.block 1 (.seq (.reg false [⟨some 38, (Op.move (Operand.tmp 36)), none⟩,
      ⟨some 13, (Op.assign (Operand.tmp 38)), none⟩])
    (.seq (.reg false [⟨some 39, (Op.move (Operand.tmp 0)), none⟩,
      ⟨some 40, (Op.move (Operand.tmp 13)), none⟩,
      ⟨some 41, (Op.indexAddr 22 (Operand.tmp 39) (Operand.tmp 40)), none⟩,
      ⟨some 42, (Op.load 3 (Operand.tmp 41)), none⟩,
      ⟨some 14, (Op.assign (Operand.const (Value.int IntKind.i64 0))), none⟩,
      ⟨some 15, (Op.assign (Operand.tmp 42)), none⟩])
    (.seq (.seq (.reg false [⟨some 43, (Op.move (Operand.tmp 2)), none⟩,
      ⟨some 44, (Op.move (Operand.tmp 13)), none⟩,
      ⟨some 45, (Op.indexAddr 22 (Operand.tmp 43) (Operand.tmp 44)), none⟩,
      ⟨some 46, (Op.load 3 (Operand.tmp 45)), none⟩,
      ⟨some 47, (Op.binOp BinOp.geq 3 (Operand.tmp 46) (Operand.const (Value.int IntKind.i64 0)) 3), none⟩])
    (.cond (Operand.tmp 47)
      (.reg false [⟨some 49, (Op.move (Operand.tmp 0)), none⟩,
        ⟨some 50, (Op.move (Operand.tmp 13)), none⟩,
        ⟨some 51, (Op.indexAddr 22 (Operand.tmp 49) (Operand.tmp 50)), none⟩,
        ⟨some 52, (Op.load 3 (Operand.tmp 51)), none⟩,
        ⟨some 53, (Op.move (Operand.tmp 1)), none⟩,
        ⟨some 54, (Op.move (Operand.tmp 2)), none⟩,
        ⟨some 55, (Op.move (Operand.tmp 13)), none⟩,
        ⟨some 56, (Op.indexAddr 22 (Operand.tmp 54) (Operand.tmp 55)), none⟩,
        ⟨some 57, (Op.load 3 (Operand.tmp 56)), none⟩,
        ⟨some 58, (Op.indexAddr 22 (Operand.tmp 53) (Operand.tmp 57)), none⟩,
        ⟨some 59, (Op.load 3 (Operand.tmp 58)), none⟩,
        ⟨some 60, (Op.move (Operand.tmp 10)), none⟩,
        ⟨some 61, (Op.move (Operand.tmp 2)), none⟩,
        ⟨some 62, (Op.move (Operand.tmp 13)), none⟩,
        ⟨some 63, (Op.indexAddr 22 (Operand.tmp 61) (Operand.tmp 62)), none⟩,
        ⟨some 64, (Op.load 3 (Operand.tmp 63)), none⟩,
        ⟨some 65, (Op.indexAddr 22 (Operand.tmp 60) (Operand.tmp 64)), none⟩,
        ⟨some 66, (Op.load 3 (Operand.tmp 65)), none⟩,
        ⟨some 67, (Op.call { callee := (Callee.value (Operand.func 99)), args := #[(Operand.tmp 52), (Operand.tmp 59), (Operand.tmp 66)], argTypes := #[3, 3, 3] }), none⟩,
        ⟨some 48, (Op.move (Operand.tmp 67)), none⟩,
        ⟨some 68, (Op.extract (Operand.tmp 48) 0), none⟩,
        ⟨some 69, (Op.extract (Operand.tmp 48) 1), none⟩,
        ⟨some 14, (Op.assign (Operand.tmp 68)), none⟩,
        ⟨some 15, (Op.assign (Operand.tmp 69)), none⟩])
      .skip))
    (.reg false [⟨some 70, (Op.move (Operand.tmp 11)), none⟩,
      ⟨some 71, (Op.move (Operand.tmp 14)), none⟩,
      ⟨some 72, (Op.buildSlice 22 1 #[(0, (Operand.tmp 71))]), none⟩,
      ⟨some 73, (Op.call { callee := (Callee.builtin Builtin.append), args := #[(Operand.tmp 70), (Operand.tmp 72)], argTypes := #[22, 22] }), none⟩,
      ⟨some 74, (Op.move (Operand.tmp 12)), none⟩,
      ⟨some 75, (Op.move (Operand.tmp 15)), none⟩,
      ⟨some 76, (Op.move (Operand.tmp 14)), none⟩,
      ⟨some 77, (Op.binOp BinOp.sub 3 (Operand.tmp 75) (Operand.tmp 76) 3), none⟩,
      ⟨some 78, (Op.buildSlice 22 1 #[(0, (Operand.tmp 77))]), none⟩,
      ⟨some 79, (Op.call { callee := (Callee.builtin Builtin.append), args := #[(Operand.tmp 74), (Operand.tmp 78)], argTypes := #[22, 22] }), none⟩,
      ⟨some 11, (Op.assign (Operand.tmp 73)), none⟩,
      ⟨some 12, (Op.assign (Operand.tmp 79)), none⟩])))))
    (.reg false [⟨some 80, (Op.binOp BinOp.add 3 (Operand.tmp 36) (Operand.const (Value.int IntKind.i64 1)) 3), none⟩,
      ⟨some 36, (Op.move (Operand.tmp 80)), none⟩])))))))
  (.seq (.reg false [⟨some 81, (Op.move (Operand.tmp 11)), none⟩,
    ⟨some 82, (Op.move (Operand.tmp 12)), none⟩,
    ⟨some 8, (Op.assign (Operand.tmp 81)), none⟩,
    ⟨some 9, (Op.assign (Operand.tmp 82)), none⟩])
  .ret))))))
noncomputable def b40 : Code := Try.f40.body.getD .skip
theorem hb40 : Try.f40.body = some b40 := by kernel_rfl
theorem sh40 : shortC A40 b40 = c40 := by kernel_rfl
theorem ok40 : (okSlots Try.f40.ntmps b40 && okRecs A40 b40) = true := by kernel_rfl
def rs40 : List ResultVar := [(ResultVar.tmp 8), (ResultVar.tmp 9)]
theorem hr40 : Try.f40.results.toList = rs40 := by kernel_rfl
/-! parquetry/parquetryref1.Place (2 parameters; calls 100 parquetry/parquetryref1.Size) -/
def A41 : Ann := { live := fun i => if i = 5 then [0, 1, 5, 6] else [], drop := fun i => false }
noncomputable def c41 : Cc :=
  (.seq (.reg false [⟨some 4, (Op.assign (Operand.const (Value.slice none 0 0))), none⟩])
  (.seq (.seq (.reg false [⟨some 7, (Op.move (Operand.tmp 1)), none⟩,
    ⟨some 8, (Op.binOp BinOp.lss 3 (Operand.tmp 7) (Operand.const (Value.int IntKind.i64 0)) 3), none⟩,
    ⟨some 9, (Op.move (Operand.tmp 8)), none⟩,
    ⟨some 10, (Op.move (Operand.tmp 1)), some (9, false)⟩,
    ⟨some 11, (Op.move (Operand.tmp 0)), some (9, false)⟩,
    ⟨some 12, (Op.call { callee := (Callee.value (Operand.func 100)), args := #[(Operand.tmp 11)], argTypes := #[22] }), some (9, false)⟩,
    ⟨some 13, (Op.binOp BinOp.geq 3 (Operand.tmp 10) (Operand.tmp 12) 3), some (9, false)⟩,
    ⟨some 14, (Op.pick (Operand.tmp 9) (Operand.const (Value.bool true)) (Operand.tmp 13)), none⟩])
  (.cond (Operand.tmp 14)
    (.seq (.reg false [⟨some 4, (Op.assign (Operand.const (Value.slice none 0 0))), none⟩])
    .ret)
    .skip))
  (.seq (.reg false [⟨some 15, (Op.move (Operand.tmp 0)), none⟩,
    ⟨some 16, (Op.call { callee := (Callee.builtin Builtin.len), args := #[(Operand.tmp 15)], argTypes := #[22] }), none⟩,
    ⟨some 17, (Op.makeSlice 22 (Operand.tmp 16) (Operand.tmp 16)), none⟩,
    ⟨some 5, (Op.assign (Operand.tmp 17)), none⟩])
  (.seq (.seq (.reg false [⟨some 18, (Op.move (Operand.tmp 0)), none⟩,
    ⟨some 19, (Op.call { callee := (Callee.builtin Builtin.len), args := #[(Operand.tmp 18)], argTypes := #[22] }), none⟩,
    ⟨some 20, (Op.binOp BinOp.sub 3 (Operand.tmp 19) (Operand.const (Value.int IntKind.i64 1)) 3), none⟩,
    ⟨some 6, (Op.assign (Operand.tmp 20)), none⟩])
  (.block 0 (.loop [0, 1, 5, 6] false
    (.seq (.seq (.reg false [⟨some 21, (Op.move (Operand.tmp 6)), none⟩,
      ⟨some 22, (Op.binOp BinOp.geq 3 (Operand.tmp 21) (Operand.const (Value.int IntKind.i64 0)) 3), none⟩])
    (.cond (Operand.tmp 22)
      .skip
      (.exit 0)))
    (.seq (.block 1 (.seq (.reg false [⟨some 25, (Op.move (Operand.tmp 5)), none⟩,
      ⟨some 26, (Op.move (Operand.tmp 6)), none⟩,
      ⟨some 27, (Op.move (Operand.tmp 1)), none⟩,
      ⟨some 28, (Op.move (Operand.tmp 0)), none⟩,
      ⟨some 29, (Op.move (Operand.tmp 6)), none⟩,
      ⟨some 30, (Op.indexAddr 22 (Operand.tmp 28) (Operand.tmp 29)), none⟩,
      ⟨some 31, (Op.load 3 (Operand.tmp 30)), none⟩,
      ⟨some 32, (Op.binOp BinOp.rem 3 (Operand.tmp 27) (Operand.tmp 31) 3), none⟩,
      ⟨some 33, (Op.indexAddr 22 (Operand.tmp 25) (Operand.tmp 26)), none⟩,
      ⟨none, (Op.store 3 (Operand.tmp 33) (Operand.tmp 32)), none⟩])
    (.reg false [⟨some 34, (Op.move (Operand.tmp 1)), none⟩,
      ⟨some 35, (Op.move (Operand.tmp 0)), none⟩,
      ⟨some 36, (Op.move (Operand.tmp 6)), none⟩,
      ⟨some 37, (Op.indexAddr 22 (Operand.tmp 35) (Operand.tmp 36)), none⟩,
      ⟨some 38, (Op.load 3 (Operand.tmp 37)), none⟩,
      ⟨some 39, (Op.binOp BinOp.quo 3 (Operand.tmp 34) (Operand.tmp 38) 3), none⟩,
      ⟨some 1, (Op.assign (Operand.tmp 39)), none⟩])))
    (.reg false [⟨some 23, (Op.move (Operand.tmp 6)), none⟩,
      ⟨some 24, (Op.binOp BinOp.sub 3 (Operand.tmp 23) (Operand.const (Value.int IntKind.i64 1)) 3), none⟩,
      ⟨some 6, (Op.assign (Operand.tmp 24)), none⟩]))))))
  (.seq (.reg false [⟨some 40, (Op.move (Operand.tmp 5)), none⟩,
    ⟨some 4, (Op.assign (Operand.tmp 40)), none⟩])
  .ret)))))
noncomputable def b41 : Code := Try.f41.body.getD .skip
theorem hb41 : Try.f41.body = some b41 := by kernel_rfl
theorem sh41 : shortC A41 b41 = c41 := by kernel_rfl
theorem ok41 : (okSlots Try.f41.ntmps b41 && okRecs A41 b41) = true := by kernel_rfl
def rs41 : List ResultVar := [(ResultVar.tmp 4)]
theorem hr41 : Try.f41.results.toList = rs41 := by kernel_rfl
/-! parquetry/parquetryref1.Index (2 parameters; calls 101 parquetry/parquetryref1.Right) -/
def A42 : Ann := { live := fun i => if i = 5 then [0, 1, 5, 6] else [], drop := fun i => false }
noncomputable def c42 : Cc :=
  (.seq (.reg false [⟨some 4, (Op.assign (Operand.const (Value.int IntKind.i64 0))), none⟩])
  (.seq (.seq (.reg false [⟨some 7, (Op.move (Operand.tmp 0)), none⟩,
    ⟨some 8, (Op.call { callee := (Callee.value (Operand.func 101)), args := #[(Operand.tmp 7)], argTypes := #[22] }), none⟩,
    ⟨some 9, (Op.unOp UnOp.not 4 (Operand.tmp 8)), none⟩,
    ⟨some 10, (Op.move (Operand.tmp 9)), none⟩,
    ⟨some 11, (Op.move (Operand.tmp 1)), some (10, false)⟩,
    ⟨some 12, (Op.call { callee := (Callee.builtin Builtin.len), args := #[(Operand.tmp 11)], argTypes := #[22] }), some (10, false)⟩,
    ⟨some 13, (Op.move (Operand.tmp 0)), some (10, false)⟩,
    ⟨some 14, (Op.call { callee := (Callee.builtin Builtin.len), args := #[(Operand.tmp 13)], argTypes := #[22] }), some (10, false)⟩,
    ⟨some 15, (Op.binOp BinOp.neq 3 (Operand.tmp 12) (Operand.tmp 14) 3), some (10, false)⟩,
    ⟨some 16, (Op.pick (Operand.tmp 10) (Operand.const (Value.bool true)) (Operand.tmp 15)), none⟩])
  (.cond (Operand.tmp 16)
    (.seq (.reg false [⟨some 4, (Op.assign (Operand.const (Value.int IntKind.i64 (-1)))), none⟩])
    .ret)
    .skip))
  (.seq (.reg false [⟨some 5, (Op.assign (Operand.const (Value.int IntKind.i64 0))), none⟩])
  (.seq (.seq (.reg false [⟨some 6, (Op.assign (Operand.const (Value.int IntKind.i64 0))), none⟩])
  (.block 0 (.loop [0, 1, 5, 6] false
    (.seq (.seq (.reg false [⟨some 17, (Op.move (Operand.tmp 6)), none⟩,
      ⟨some 18, (Op.move (Operand.tmp 0)), none⟩,
      ⟨some 19, (Op.call { callee := (Callee.builtin Builtin.len), args := #[(Operand.tmp 18)], argTypes := #[22] }), none⟩,
      ⟨some 20, (Op.binOp BinOp.lss 3 (Operand.tmp 17) (Operand.tmp 19) 3), none⟩])
    (.cond (Operand.tmp 20)
      .skip
      (.exit 0)))
    (.seq (.block 1 (.seq (.seq (.reg false [⟨some 23, (Op.move (Operand.tmp 1)), none⟩,
      ⟨some 24, (Op.move (Operand.tmp 6)), none⟩,
      ⟨some 25, (Op.indexAddr 22 (Operand.tmp 23) (Operand.tmp 24)), none⟩,
      ⟨some 26, (Op.load 3 (Operand.tmp 25)), none⟩,
      ⟨some 27, (Op.binOp BinOp.lss 3 (Operand.tmp 26) (Operand.const (Value.int IntKind.i64 0)) 3), none⟩,
      ⟨some 28, (Op.move (Operand.tmp 27)), none⟩,
      ⟨some 29, (Op.move (Operand.tmp 1)), some (28, false)⟩,
      ⟨some 30, (Op.move (Operand.tmp 6)), some (28, false)⟩,
      ⟨some 31, (Op.indexAddr 22 (Operand.tmp 29) (Operand.tmp 30)), some (28, false)⟩,
      ⟨some 32, (Op.load 3 (Operand.tmp 31)), some (28, false)⟩,
      ⟨some 33, (Op.move (Operand.tmp 0)), some (28, false)⟩,
      ⟨some 34, (Op.move (Operand.tmp 6)), some (28, false)⟩,
      ⟨some 35, (Op.indexAddr 22 (Operand.tmp 33) (Operand.tmp 34)), some (28, false)⟩,
      ⟨some 36, (Op.load 3 (Operand.tmp 35)), some (28, false)⟩,
      ⟨some 37, (Op.binOp BinOp.geq 3 (Operand.tmp 32) (Operand.tmp 36) 3), some (28, false)⟩,
      ⟨some 38, (Op.pick (Operand.tmp 28) (Operand.const (Value.bool true)) (Operand.tmp 37)), none⟩])
    (.cond (Operand.tmp 38)
      (.seq (.reg false [⟨some 4, (Op.assign (Operand.const (Value.int IntKind.i64 (-1)))), none⟩])
      .ret)
      .skip))
    (.reg false [⟨some 39, (Op.move (Operand.tmp 5)), none⟩,
      ⟨some 40, (Op.move (Operand.tmp 0)), none⟩,
      ⟨some 41, (Op.move (Operand.tmp 6)), none⟩,
      ⟨some 42, (Op.indexAddr 22 (Operand.tmp 40) (Operand.tmp 41)), none⟩,
      ⟨some 43, (Op.load 3 (Operand.tmp 42)), none⟩,
      ⟨some 44, (Op.binOp BinOp.mul 3 (Operand.tmp 39) (Operand.tmp 43) 3), none⟩,
      ⟨some 45, (Op.move (Operand.tmp 1)), none⟩,
      ⟨some 46, (Op.move (Operand.tmp 6)), none⟩,
      ⟨some 47, (Op.indexAddr 22 (Operand.tmp 45) (Operand.tmp 46)), none⟩,
      ⟨some 48, (Op.load 3 (Operand.tmp 47)), none⟩,
      ⟨some 49, (Op.binOp BinOp.add 3 (Operand.tmp 44) (Operand.tmp 48) 3), none⟩,
      ⟨some 5, (Op.assign (Operand.tmp 49)), none⟩])))
    (.reg false [⟨some 21, (Op.move (Operand.tmp 6)), none⟩,
      ⟨some 22, (Op.binOp BinOp.add 3 (Operand.tmp 21) (Operand.const (Value.int IntKind.i64 1)) 3), none⟩,
      ⟨some 6, (Op.assign (Operand.tmp 22)), none⟩]))))))
  (.seq (.reg false [⟨some 50, (Op.move (Operand.tmp 5)), none⟩,
    ⟨some 4, (Op.assign (Operand.tmp 50)), none⟩])
  .ret)))))
noncomputable def b42 : Code := Try.f42.body.getD .skip
theorem hb42 : Try.f42.body = some b42 := by kernel_rfl
theorem sh42 : shortC A42 b42 = c42 := by kernel_rfl
theorem ok42 : (okSlots Try.f42.ntmps b42 && okRecs A42 b42) = true := by kernel_rfl
def rs42 : List ResultVar := [(ResultVar.tmp 4)]
theorem hr42 : Try.f42.results.toList = rs42 := by kernel_rfl
/-! parquetry/parquetrylaw17.SplitFirsts (2 parameters; calls 23 parquetry/parquetryref14.Copies, 31 parquetry/parquetrylaw17.made, 36 parquetry/parquetrylaw17.known, 37 parquetry/split.All, 38 parquetry/split.Join, 39 parquetry/parquetryref1.Same, 40 parquetry/parquetryref14.Tile, 41 parquetry/parquetryref1.Place, 42 parquetry/parquetryref1.Index) -/
def A11 : Ann := { recs := fun i => if i = 21 then [(0, 8), (0, 14), (1, 8), (1, 14), (2, 8), (2, 14), (3, 8), (3, 14), (4, 8), (4, 14), (5, 8), (5, 14), (6, 8), (6, 14), (8, 7), (9, 7), (10, 7), (11, 7), (12, 7)] else [], live := fun i => if i = 8 then [5, 6, 7, 8, 10, 11, 12, 62, 63] else if i = 12 then [5, 6, 7, 8, 10, 11, 12, 13, 14, 62, 63, 70, 71] else [], drop := fun i => false }
noncomputable def c11 : Cc :=
  (.seq (.reg false [⟨some 4, (Op.assign (Operand.const (Value.bool false))), none⟩])
  (.seq (.reg false [⟨some 19, (Op.move (Operand.tmp 0)), none⟩,
    ⟨some 20, (Op.call { callee := (Callee.value (Operand.func 31)), args := #[(Operand.tmp 19)], argTypes := #[22] }), none⟩,
    ⟨some 18, (Op.move (Operand.tmp 20)), none⟩,
    ⟨some 21, (Op.extract (Operand.tmp 18) 0), none⟩,
    ⟨some 22, (Op.extract (Operand.tmp 18) 1), none⟩,
    ⟨some 23, (Op.extract (Operand.tmp 18) 2), none⟩,
    ⟨some 5, (Op.alloc 40), none⟩,
    ⟨none, (Op.store 40 (Operand.tmp 5) (Operand.tmp 21)), none⟩,
    ⟨some 6, (Op.assign (Operand.tmp 22)), none⟩,
    ⟨some 7, (Op.assign (Operand.tmp 23)), none⟩])
  (.seq (.reg false [⟨some 25, (Op.load 40 (Operand.tmp 5)), none⟩,
    ⟨some 26, (Op.move (Operand.tmp 6)), none⟩,
    ⟨some 27, (Op.move (Operand.tmp 7)), none⟩,
    ⟨some 28, (Op.call { callee := (Callee.value (Operand.func 37)), args := #[(Operand.tmp 25), (Operand.tmp 26), (Operand.tmp 27)], argTypes := #[40, 22, 22] }), none⟩,
    ⟨some 24, (Op.move (Operand.tmp 28)), none⟩,
    ⟨some 29, (Op.extract (Operand.tmp 24) 0), none⟩,
    ⟨some 30, (Op.extract (Operand.tmp 24) 1), none⟩,
    ⟨some 8, (Op.assign (Operand.tmp 29)), none⟩,
    ⟨some 9, (Op.assign (Operand.tmp 30)), none⟩])
  (.seq (.seq (.reg false [⟨some 31, (Op.move (Operand.tmp 9)), none⟩,
    ⟨some 32, (Op.binOp BinOp.neq 46 (Operand.tmp 31) (Operand.const (Value.int IntKind.i64 0)) 46), none⟩,
    ⟨some 33, (Op.move (Operand.tmp 32)), none⟩,
    ⟨some 34, (Op.move (Operand.tmp 8)), some (33, false)⟩,
    ⟨some 35, (Op.call { callee := (Callee.builtin Builtin.len), args := #[(Operand.tmp 34)], argTypes := #[45] }), some (33, false)⟩,
    ⟨some 36, (Op.binOp BinOp.lss 3 (Operand.tmp 35) (Operand.const (Value.int IntKind.i64 1)) 3), some (33, false)⟩,
    ⟨some 37, (Op.pick (Operand.tmp 33) (Operand.const (Value.bool true)) (Operand.tmp 36)), none⟩])
  (.cond (Operand.tmp 37)
    (.seq (.reg false [⟨some 4, (Op.assign (Operand.const (Value.bool false))), none⟩])
    .ret)
    .skip))
  (.seq (.reg false [⟨some 38, (Op.move (Operand.tmp 1)), none⟩,
    ⟨some 39, (Op.move (Operand.tmp 8)), none⟩,
    ⟨some 40, (Op.call { callee := (Callee.builtin Builtin.len), args := #[(Operand.tmp 39)], argTypes := #[45] }), none⟩,
    ⟨some 41, (Op.binOp BinOp.rem 3 (Operand.tmp 38) (Operand.tmp 40) 3), none⟩,
    ⟨some 42, (Op.move (Operand.tmp 8)), none⟩,
    ⟨some 43, (Op.call { callee := (Callee.builtin Builtin.len), args := #[(Operand.tmp 42)], argTypes := #[45] }), none⟩,
    ⟨some 44, (Op.binOp BinOp.add 3 (Operand.tmp 41) (Operand.tmp 43) 3), none⟩,
    ⟨some 45, (Op.move (Operand.tmp 8)), none⟩,
    ⟨some 46, (Op.call { callee := (Callee.builtin Builtin.len), args := #[(Operand.tmp 45)], argTypes := #[45] }), none⟩,
    ⟨some 47, (Op.binOp BinOp.rem 3 (Operand.tmp 44) (Operand.tmp 46) 3), none⟩,
    ⟨some 10, (Op.assign (Operand.tmp 47)), none⟩])
  (.seq (.reg false [⟨some 49, (Op.fieldAddr 40 (Operand.tmp 5) 0), none⟩,
    ⟨some 50, (Op.load 22 (Operand.tmp 49)), none⟩,
    ⟨some 51, (Op.move (Operand.tmp 6)), none⟩,
    ⟨some 52, (Op.move (Operand.tmp 7)), none⟩,
    ⟨some 53, (Op.move (Operand.tmp 10)), none⟩,
    ⟨some 54, (Op.call { callee := (Callee.value (Operand.func 40)), args := #[(Operand.tmp 50), (Operand.tmp 51), (Operand.tmp 52), (Operand.tmp 53)], argTypes := #[22, 22, 22, 3] }), none⟩,
    ⟨some 48, (Op.move (Operand.tmp 54)), none⟩,
    ⟨some 55, (Op.extract (Operand.tmp 48) 0), none⟩,
    ⟨some 56, (Op.extract (Operand.tmp 48) 1), none⟩,
    ⟨some 11, (Op.assign (Operand.tmp 55)), none⟩,
    ⟨some 12, (Op.assign (Operand.tmp 56)), none⟩])
  (.seq (.seq (.reg false [⟨some 57, (Op.move (Operand.tmp 8)), none⟩,
    ⟨some 58, (Op.move (Operand.tmp 10)), none⟩,
    ⟨some 59, (Op.indexAddr 45 (Operand.tmp 57) (Operand.tmp 58)), none⟩,
    ⟨some 60, (Op.fieldAddr 40 (Operand.tmp 59) 1), none⟩,
    ⟨some 61, (Op.load 38 (Operand.tmp 60)), none⟩,
    ⟨some 62, (Op.call { callee := (Callee.builtin Builtin.len), args := #[(Operand.tmp 61)], argTypes := #[38] }), none⟩,
    ⟨some 63, (Op.move (Operand.const (Value.int IntKind.i64 0))), none⟩])
  (.block 0 (.loop [5, 6, 7, 8, 10, 11, 12, 62, 63] false
    (.seq (.reg false [⟨some 64, (Op.binOp BinOp.lss 3 (Operand.tmp 63) (Operand.tmp 62) 3), none⟩])
    (.seq (.cond (Operand.tmp 64)
      .skip
      (.exit 0))
    (.seq (.block 1 (.seq (.reg false [⟨some 65, (Op.move (Operand.tmp 63)), none⟩,
      ⟨some 13, (Op.assign (Operand.tmp 65)), none⟩])
    (.seq (.reg false [⟨some 66, (Op.move (Operand.tmp 12)), none⟩,
      ⟨some 67, (Op.move (Operand.tmp 13)), none⟩,
      ⟨some 68, (Op.call { callee := (Callee.value (Operand.func 41)), args := #[(Operand.tmp 66), (Operand.tmp 67)], argTypes := #[22, 3] }), none⟩,
      ⟨some 14, (Op.assign (Operand.tmp 68)), none⟩])
    (.seq (.seq (.reg false [⟨some 69, (Op.move (Operand.tmp 14)), none⟩,
      ⟨some 70, (Op.call { callee := (Callee.builtin Builtin.len), args := #[(Operand.tmp 69)], argTypes := #[22] }), none⟩,
      ⟨some 71, (Op.move (Operand.const (Value.int IntKind.i64 0))), none⟩])
    (.block 2 (.loop [5, 6, 7, 8, 10, 11, 12, 13, 14, 62, 63, 70, 71] false
      (.seq (.reg false [⟨some 72, (Op.binOp BinOp.lss 3 (Operand.tmp 71) (Operand.tmp 70) 3), none⟩])
      (.seq (.cond (Operand.tmp 72)
        .skip
        (.exit 2))
      (.seq (.block 3 (.seq (.reg false [⟨some 73, (Op.move (Operand.tmp 71)), none⟩,
        ⟨some 15, (Op.assign (Operand.tmp 73)), none⟩])
      (.reg false [⟨some 74, (Op.move (Operand.tmp 14)), none⟩,
        ⟨some 75, (Op.move (Operand.tmp 15)), none⟩,
        ⟨some 76, (Op.move (Operand.tmp 14)), none⟩,
        ⟨some 77, (Op.move (Operand.tmp 15)), none⟩,
        ⟨some 78, (Op.indexAddr 22 (Operand.tmp 76) (Operand.tmp 77)), none⟩,
        ⟨some 79, (Op.load 3 (Operand.tmp 78)), none⟩,
        ⟨some 80, (Op.move (Operand.tmp 11)), none⟩,
        ⟨some 81, (Op.move (Operand.tmp 15)), none⟩,
        ⟨some 82, (Op.indexAddr 22 (Operand.tmp 80) (Operand.tmp 81)), none⟩,
        ⟨some 83, (Op.load 3 (Operand.tmp 82)), none⟩,
        ⟨some 84, (Op.binOp BinOp.add 3 (Operand.tmp 79) (Operand.tmp 83) 3), none⟩,
        ⟨some 85, (Op.indexAddr 22 (Operand.tmp 74) (Operand.tmp 75)), none⟩,
        ⟨none, (Op.store 3 (Operand.tmp 85) (Operand.tmp 84)), none⟩])))
      (.reg false [⟨some 86, (Op.binOp BinOp.add 3 (Operand.tmp 71) (Operand.const (Value.int IntKind.i64 1)) 3), none⟩,
        ⟨some 71, (Op.move (Operand.tmp 86)), none⟩])))))))
    (.seq (.reg false [⟨some 87, (Op.move (Operand.tmp 8)), none⟩,
      ⟨some 88, (Op.move (Operand.tmp 10)), none⟩,
      ⟨some 89, (Op.indexAddr 45 (Operand.tmp 87) (Operand.tmp 88)), none⟩,
      ⟨some 90, (Op.fieldAddr 40 (Operand.tmp 89) 1), none⟩,
      ⟨some 91, (Op.load 38 (Operand.tmp 90)), none⟩,
      ⟨some 92, (Op.move (Operand.tmp 13)), none⟩,
      ⟨some 93, (Op.indexAddr 38 (Operand.tmp 91) (Operand.tmp 92)), none⟩,
      ⟨some 94, (Op.load 2 (Operand.tmp 93)), none⟩,
      ⟨some 95, (Op.fieldAddr 40 (Operand.tmp 5) 1), none⟩,
      ⟨some 96, (Op.load 38 (Operand.tmp 95)), none⟩,
      ⟨some 97, (Op.fieldAddr 40 (Operand.tmp 5) 0), none⟩,
      ⟨some 98, (Op.load 22 (Operand.tmp 97)), none⟩,
      ⟨some 99, (Op.move (Operand.tmp 14)), none⟩,
      ⟨some 100, (Op.call { callee := (Callee.value (Operand.func 42)), args := #[(Operand.tmp 98), (Operand.tmp 99)], argTypes := #[22, 22] }), none⟩,
      ⟨some 101, (Op.indexAddr 38 (Operand.tmp 96) (Operand.tmp 100)), none⟩,
      ⟨some 102, (Op.load 2 (Operand.tmp 101)), none⟩,
      ⟨some 103, (Op.binOp BinOp.neq 2 (Operand.tmp 94) (Operand.tmp 102) 2), none⟩])
    (.cond (Operand.tmp 103)
      (.seq (.reg false [⟨some 4, (Op.assign (Operand.const (Value.bool false))), none⟩])
      .ret)
      .skip))))))
    (.reg false [⟨some 104, (Op.binOp BinOp.add 3 (Operand.tmp 63) (Operand.const (Value.int IntKind.i64 1)) 3), none⟩,
      ⟨some 63, (Op.move (Operand.tmp 104)), none⟩])))))))
  (.seq (.seq (.reg false [⟨some 105, (Op.move (Operand.tmp 8)), none⟩,
    ⟨some 106, (Op.move (Operand.tmp 10)), none⟩,
    ⟨some 107, (Op.indexAddr 45 (Operand.tmp 105) (Operand.tmp 106)), none⟩,
    ⟨some 108, (Op.fieldAddr 40 (Operand.tmp 107) 1), none⟩,
    ⟨some 109, (Op.load 38 (Operand.tmp 108)), none⟩,
    ⟨some 110, (Op.call { callee := (Callee.builtin Builtin.len), args := #[(Operand.tmp 109)], argTypes := #[38] }), none⟩,
    ⟨some 111, (Op.binOp BinOp.eql 3 (Operand.tmp 110) (Operand.const (Value.int IntKind.i64 0)) 3), none⟩])
  (.cond (Operand.tmp 111)
    (.seq (.reg false [⟨some 112, (Op.call { callee := (Callee.value (Operand.func 36)), args := #[], argTypes := #[] }), none⟩,
      ⟨some 4, (Op.assign (Operand.tmp 112)), none⟩])
    .ret)
    .skip))
  (.seq (.drw false [⟨some 113, (Op.move (Operand.tmp 8)), none⟩,
    ⟨some 114, (Op.move (Operand.tmp 10)), none⟩,
    ⟨some 115, (Op.move (Operand.tmp 8)), none⟩,
    ⟨some 116, (Op.move (Operand.tmp 10)), none⟩,
    ⟨some 117, (Op.indexAddr 45 (Operand.tmp 115) (Operand.tmp 116)), none⟩,
    ⟨some 118, (Op.fieldAddr 40 (Operand.tmp 117) 0), none⟩,
    ⟨some 119, (Op.load 22 (Operand.tmp 118)), none⟩,
    ⟨some 120, (Op.buildSlice 38 0 #[]), none⟩,
    ⟨some 121, (Op.move (Operand.tmp 8)), none⟩,
    ⟨some 122, (Op.move (Operand.tmp 10)), none⟩,
    ⟨some 123, (Op.indexAddr 45 (Operand.tmp 121) (Operand.tmp 122)), none⟩,
    ⟨some 124, (Op.fieldAddr 40 (Operand.tmp 123) 1), none⟩,
    ⟨some 125, (Op.load 38 (Operand.tmp 124)), none⟩,
    ⟨some 126, (Op.call { callee := (Callee.builtin Builtin.append), args := #[(Operand.tmp 120), (Operand.tmp 125)], argTypes := #[38, 38] }), none⟩,
    ⟨some 127, (Op.build 40 #[(0, (Operand.tmp 119)), (1, (Operand.tmp 126))]), none⟩,
    ⟨some 128, (Op.indexAddr 45 (Operand.tmp 113) (Operand.tmp 114)), none⟩,
    ⟨none, (Op.store 40 (Operand.tmp 128) (Operand.tmp 127)), none⟩] [(6, 8), (6, 14), (12, 7)])
  (.seq (.reg false [⟨some 129, (Op.move (Operand.tmp 8)), none⟩,
    ⟨some 130, (Op.move (Operand.tmp 10)), none⟩,
    ⟨some 131, (Op.indexAddr 45 (Operand.tmp 129) (Operand.tmp 130)), none⟩,
    ⟨some 132, (Op.fieldAddr 40 (Operand.tmp 131) 1), none⟩,
    ⟨some 133, (Op.load 38 (Operand.tmp 132)), none⟩,
    ⟨some 134, (Op.indexAddr 38 (Operand.tmp 133) (Operand.const (Value.int IntKind.i64 0))), none⟩,
    ⟨some 135, (Op.load 2 (Operand.tmp 134)), none⟩,
    ⟨some 136, (Op.binOp BinOp.add 2 (Operand.tmp 135) (Operand.const (Value.int IntKind.i64 1)) 2), none⟩,
    ⟨some 137, (Op.indexAddr 38 (Operand.tmp 133) (Operand.const (Value.int IntKind.i64 0))), none⟩,
    ⟨none, (Op.store 2 (Operand.tmp 137) (Operand.tmp 136)), none⟩])
  (.seq (.reg false [⟨some 139, (Op.move (Operand.tmp 8)), none⟩,
    ⟨some 140, (Op.fieldAddr 40 (Operand.tmp 5) 0), none⟩,
    ⟨some 141, (Op.load 22 (Operand.tmp 140)), none⟩,
    ⟨some 142, (Op.move (Operand.tmp 6)), none⟩,
    ⟨some 143, (Op.move (Operand.tmp 7)), none⟩,
    ⟨some 144, (Op.call { callee := (Callee.value (Operand.func 38)), args := #[(Operand.tmp 139), (Operand.tmp 141), (Operand.tmp 142), (Operand.tmp 143)], argTypes := #[45, 22, 22, 22] }), none⟩,
    ⟨some 138, (Op.move (Operand.tmp 144)), none⟩,
    ⟨some 145, (Op.extract (Operand.tmp 138) 0), none⟩,
    ⟨some 146, (Op.extract (Operand.tmp 138) 1), none⟩,
    ⟨some 16, (Op.alloc 40), none⟩,
    ⟨none, (Op.store 40 (Operand.tmp 16) (Operand.tmp 145)), none⟩,
    ⟨some 17, (Op.assign (Operand.tmp 146)), none⟩])
  (.seq (.seq (.reg false [⟨some 147, (Op.move (Operand.tmp 6)), none⟩,
    ⟨some 148, (Op.move (Operand.tmp 7)), none⟩,
    ⟨some 149, (Op.call { callee := (Callee.value (Operand.func 23)), args := #[(Operand.tmp 147), (Operand.tmp 148)], argTypes := #[22, 22] }), none⟩,
    ⟨some 150, (Op.binOp BinOp.gtr 3 (Operand.tmp 149) (Operand.const (Value.int IntKind.i64 1)) 3), none⟩])
  (.cond (Operand.tmp 150)
    (.seq (.reg false [⟨some 151, (Op.move (Operand.tmp 17)), none⟩,
      ⟨some 152, (Op.binOp BinOp.eql 46 (Operand.tmp 151) (Operand.const (Value.int IntKind.i64 25)) 46), none⟩,
      ⟨some 153, (Op.move (Operand.tmp 152)), none⟩,
      ⟨some 154, (Op.fieldAddr 40 (Operand.tmp 16) 1), some (153, true)⟩,
      ⟨some 155, (Op.load 38 (Operand.tmp 154)), some (153, true)⟩,
      ⟨some 156, (Op.call { callee := (Callee.builtin Builtin.len), args := #[(Operand.tmp 155)], argTypes := #[38] }), some (153, true)⟩,
      ⟨some 157, (Op.binOp BinOp.eql 3 (Operand.tmp 156) (Operand.const (Value.int IntKind.i64 0)) 3), some (153, true)⟩,
      ⟨some 158, (Op.pick (Operand.tmp 153) (Operand.tmp 157) (Operand.const (Value.bool false))), none⟩,
      ⟨some 159, (Op.move (Operand.tmp 158)), none⟩,
      ⟨some 160, (Op.call { callee := (Callee.value (Operand.func 36)), args := #[], argTypes := #[] }), some (159, true)⟩,
      ⟨some 161, (Op.pick (Operand.tmp 159) (Operand.tmp 160) (Operand.const (Value.bool false))), none⟩,
      ⟨some 4, (Op.assign (Operand.tmp 161)), none⟩])
    .ret)
    .skip))
  (.seq (.reg false [⟨some 162, (Op.move (Operand.tmp 17)), none⟩,
    ⟨some 163, (Op.binOp BinOp.eql 46 (Operand.tmp 162) (Operand.const (Value.int IntKind.i64 0)) 46), none⟩,
    ⟨some 164, (Op.move (Operand.tmp 163)), none⟩,
    ⟨some 165, (Op.load 40 (Operand.tmp 16)), some (164, true)⟩,
    ⟨some 166, (Op.load 40 (Operand.tmp 5)), some (164, true)⟩,
    ⟨some 167, (Op.call { callee := (Callee.value (Operand.func 39)), args := #[(Operand.tmp 165), (Operand.tmp 166)], argTypes := #[40, 40] }), some (164, true)⟩,
    ⟨some 168, (Op.unOp UnOp.not 4 (Operand.tmp 167)), some (164, true)⟩,
    ⟨some 169, (Op.pick (Operand.tmp 164) (Operand.tmp 168) (Operand.const (Value.bool false))), none⟩,
    ⟨some 170, (Op.move (Operand.tmp 169)), none⟩,
    ⟨some 171, (Op.call { callee := (Callee.value (Operand.func 36)), args := #[], argTypes := #[] }), some (170, true)⟩,
    ⟨some 172, (Op.pick (Operand.tmp 170) (Operand.tmp 171) (Operand.const (Value.bool false))), none⟩,
    ⟨some 4, (Op.assign (Operand.tmp 172)), none⟩])
  .ret)))))))))))))
noncomputable def b11 : Code := Try.f11.body.getD .skip
theorem hb11 : Try.f11.body = some b11 := by kernel_rfl
theorem sh11 : shortC A11 b11 = c11 := by kernel_rfl
theorem ok11 : (okSlots Try.f11.ntmps b11 && okRecs A11 b11) = true := by kernel_rfl
def rs11 : List ResultVar := [(ResultVar.tmp 4)]
theorem hr11 : Try.f11.results.toList = rs11 := by kernel_rfl
/- Walks: the document's parts of a length, of a tensor; its places. -/
def widthR (n k : Int) : Int := if n < 0 ∨ k < 1 then 0 else if 0 < n.tmod k then w (w (n.tdiv k) + 1) else w (n.tdiv k)
def F140 (args : List AV) (_ : Hp) : Option AV := match args with
  | [.int .i64 n, .int .i64 k] => some (.int .i64 (widthR n k))
  | _ => none
theorem snd140 : Sound Try.prog 140 (FSem.pure F140).run := by
  refine sound_of hT (EOK_nil _) mixed A140 Try.func140 hb140 (by kernel_rfl) (by kernel_rfl) (by kernel_rfl) (by kernel_rfl) sh140 2 (by kernel_rfl) rs140 hr140 ?_
  intro args H r H' hw h
  obtain ⟨rfl, hv⟩ := pureAt h
  clear h
  unfold F140 at hv
  split at hv
  · rename_i n k
    cases hv
    have hk : ¬ k < 1 → ¬ k = 0 := by omega
    refine ⟨rfl, go ?_⟩
    unfold c140
    simp only [argSl]
    repeat' (first | apply goSeq | apply goReg | apply goSeqN | apply goSeqR | apply goSkip | apply goRet | apply goNil | apply goBlock | apply goExit | apply goBlkN | apply goBlkR | apply goBlkE | apply goSeqE | apply goLoopR | apply goLoopE | (apply goOp; (· (simp [*]; try exact rfl)); (· exact rfl)) | (apply goOp0; (· (simp [*]; try exact rfl)); (· exact rfl)) | (apply goYes; (· (simp [*]; done)); (· (simp [*]; try exact rfl)); (· exact rfl)) | (apply goNo; (· (simp [*]; done))) | (apply goNoU; (· (simp; exact rfl))) | (apply goIfT; (· (simp [*]; done))) | (apply goIfF; (· (simp [*]; done))) | (apply goIf; (· (simp; exact rfl)); (· with_reducible exact rfl)) | (apply goSplit; (· (simp; exact rfl)); (· with_reducible exact rfl)) | (apply goIfQ; (· (simp; exact rfl)); (· exact rfl)) | (apply goSplitQ; (· (simp; exact rfl)); (· exact rfl)) | (apply goBlkX; (· rfl)) | intro _)
    all_goals (refine goEnd hw (Pre.refl _) (by simp) (by simp [rs140]; exact rfl) rfl ?_; simp [widthR, *])
  · cases hv
@[simp] theorem F140_at (n k : Int) (H : Hp) : F140 [.int .i64 n, .int .i64 k] H = some (.int .i64 (widthR n k)) := rfl
def cutR1 (n W i : Int) : Int := if W = 0 ∨ i ≤ w (n.tdiv W) then (if w (i * W) ≤ n then w (i * W) else n) else n
def cutR2 (n W f : Int) : Int := if W ≤ w (n - f) then w (f + W) else n
def cutR (n k i : Int) : Int × Int := if n < 0 ∨ k < 1 ∨ i < 0 ∨ k ≤ i then (0, 0) else (cutR1 n (widthR n k) i, cutR2 n (widthR n k) (cutR1 n (widthR n k) i))
def F99 (args : List AV) (_ : Hp) : Option AV := match args with
  | [.int .i64 n, .int .i64 k, .int .i64 i] => some (.tup [.int .i64 (cutR n k i).1, .int .i64 (cutR n k i).2])
  | _ => none
set_option maxHeartbeats 1000000 in
theorem snd99 : Sound Try.prog 99 (FSem.pure F99).run := by
  refine sound_of hT (EOK_cons snd140 (EOK_nil _)) mixed A99 Try.func99 hb99 (by kernel_rfl) (by kernel_rfl) (by kernel_rfl) (by kernel_rfl) sh99 3 (by kernel_rfl) rs99 hr99 ?_
  intro args H r H' hw h
  obtain ⟨rfl, hv⟩ := pureAt h
  clear h
  unfold F99 at hv
  split at hv
  · rename_i n k i
    cases hv
    refine ⟨rfl, go ?_⟩
    unfold c99
    simp only [argSl]
    by_cases hc : n < 0 ∨ k < 1 ∨ i < 0 ∨ k ≤ i
    · have e : cutR n k i = (0, 0) := by simp [cutR, hc]
      rw [e]
      clear e
      rcases hc with hc | hc | hc | hc
      all_goals (repeat' (first | apply goSeq | apply goReg | apply goSeqN | apply goSeqR | apply goSkip | apply goRet | apply goNil | apply goBlock | apply goExit | apply goBlkN | apply goBlkR | apply goBlkE | apply goSeqE | apply goLoopR | apply goLoopE | (apply goOp; (· (simp [*]; try exact rfl)); (· exact rfl)) | (apply goOp0; (· (simp [*]; try exact rfl)); (· exact rfl)) | (apply goYes; (· (simp [*]; done)); (· (simp [*]; try exact rfl)); (· exact rfl)) | (apply goNo; (· (simp [*]; done))) | (apply goNoU; (· (simp; exact rfl))) | (apply goIfT; (· (simp [*]; done))) | (apply goIfF; (· (simp [*]; done))) | (apply goIf; (· (simp; exact rfl)); (· with_reducible exact rfl)) | (apply goSplit; (· (simp; exact rfl)); (· with_reducible exact rfl)) | (apply goIfQ; (· (simp; exact rfl)); (· exact rfl)) | (apply goSplitQ; (· (simp; exact rfl)); (· exact rfl)) | (apply goBlkX; (· rfl)) | intro _))
      all_goals (first | (refine goEnd hw (Pre.refl _) (by simp) (by simp [rs99]; exact rfl) rfl rfl; done) | (exfalso; simp at *; omega))
    · have e : cutR n k i = (cutR1 n (widthR n k) i, cutR2 n (widthR n k) (cutR1 n (widthR n k) i)) := by simp only [cutR, if_neg hc]
      rw [e]
      clear e
      have h1 : ¬ n < 0 := by omega
      have h2 : ¬ k < 1 := by omega
      have h3 : ¬ i < 0 := by omega
      have h4 : ¬ k ≤ i := by omega
      clear hc
      generalize hW : widthR n k = W at *
      repeat' (first | apply goSeq | apply goReg | apply goSeqN | apply goSeqR | apply goSkip | apply goRet | apply goNil | apply goBlock | apply goExit | apply goBlkN | apply goBlkR | apply goBlkE | apply goSeqE | apply goLoopR | apply goLoopE | (apply goOp; (· (simp [*]; try exact rfl)); (· exact rfl)) | (apply goOp0; (· (simp [*]; try exact rfl)); (· exact rfl)) | (apply goYes; (· (simp [*]; done)); (· (simp [*]; try exact rfl)); (· exact rfl)) | (apply goNo; (· (simp [*]; done))) | (apply goNoU; (· (simp; exact rfl))) | (apply goIfT; (· (simp [*]; done))) | (apply goIfF; (· (simp [*]; done))) | (apply goIf; (· (simp; exact rfl)); (· with_reducible exact rfl)) | (apply goSplit; (· (simp; exact rfl)); (· with_reducible exact rfl)) | (apply goIfQ; (· (simp; exact rfl)); (· exact rfl)) | (apply goSplitQ; (· (simp; exact rfl)); (· exact rfl)) | (apply goBlkX; (· rfl)) | intro _)
      all_goals (refine goEnd hw (Pre.refl _) (by simp) (by simp [rs99]; exact rfl) rfl ?_; simp [cutR1, cutR2, *])
  · cases hv
def cutSame (n k i : Int) : Bool := decide (cutR n k i = cut n k i)
theorem cutR_fin : ((List.range 33).all fun n => (List.range 8).all fun k => (List.range (k + 1)).all fun i => cutSame (n : Nat) ((k + 1 : Nat) : Int) (i : Nat)) = true := by decide +kernel
theorem cutR_eq {n k i : Int} (hn : 0 ≤ n ∧ n ≤ 32) (hk : 1 ≤ k ∧ k ≤ 8) (hi : 0 ≤ i ∧ i < k) : cutR n k i = cut n k i := by
  obtain ⟨n, rfl⟩ : ∃ m : Nat, n = m := ⟨n.toNat, by omega⟩
  obtain ⟨k, rfl⟩ : ∃ m : Nat, k = m + 1 := ⟨(k - 1).toNat, by omega⟩
  obtain ⟨i, rfl⟩ : ∃ m : Nat, i = m := ⟨i.toNat, by omega⟩
  have h1 := List.all_eq_true.1 cutR_fin n (by simp; omega)
  have h2 := List.all_eq_true.1 h1 k (by simp; omega)
  have h3 := List.all_eq_true.1 h2 i (by simp; omega)
  simpa [cutSame] using h3
@[simp] theorem F99_at (n k i : Int) (H : Hp) : F99 [.int .i64 n, .int .i64 k, .int .i64 i] H = some (.tup [.int .i64 (cutR n k i).1, .int .i64 (cutR n k i).2]) := rfl
/-- May a shape be parted so? -/
def mayS (s sz sp : List Int) : Bool := shapeOK s && meshOK sz && specOK sz sp s.length
def F85 (args : List AV) (H : Hp) : Option AV := match args with
  | [a, b, c] => (ints H a).bind fun s => (ints H b).bind fun sz => (ints H c).map fun sp => .bool (mayS s sz sp)
  | _ => none
theorem snd85 : Sound Try.prog 85 (FSem.pure F85).run := by
  refine sound_of hT (EOK_cons snd56 (EOK_cons snd58 (EOK_cons snd101 (EOK_nil _)))) mixed A85 Try.func85 hb85 (by kernel_rfl) (by kernel_rfl) (by kernel_rfl) (by kernel_rfl) sh85 3 (by kernel_rfl) rs85 hr85 ?_
  intro args H r H' hw h
  obtain ⟨rfl, hv⟩ := pureAt h
  clear h
  unfold F85 at hv
  split at hv
  · rename_i a b c
    obtain ⟨s, hs, hv⟩ := Option.bind_eq_some_iff.1 hv
    obtain ⟨sz, hsz, hv⟩ := Option.bind_eq_some_iff.1 hv
    obtain ⟨sp, hsp, hv⟩ := Option.map_eq_some_iff.1 hv
    cases hv
    have hl := alenS_ints hs
    simp only [← alen22] at hl
    have e1 := r1OK_eq s
    have e2 := rOK_eq sz
    have e3 := rSpecOK_eq sz sp s.length
    refine ⟨rfl, go ?_⟩
    unfold c85
    simp only [argSl]
    unfold mayS
    rcases h1 : shapeOK s with _ | _
    · repeat' (first | apply goSeq | apply goReg | apply goSeqN | apply goSeqR | apply goSkip | apply goRet | apply goNil | apply goBlock | apply goExit | apply goBlkN | apply goBlkR | apply goBlkE | apply goSeqE | apply goLoopR | apply goLoopE | (apply goOp; (· (simp [*]; try exact rfl)); (· exact rfl)) | (apply goOp0; (· (simp [*]; try exact rfl)); (· exact rfl)) | (apply goYes; (· (simp [*]; done)); (· (simp [*]; try exact rfl)); (· exact rfl)) | (apply goNo; (· (simp [*]; done))) | (apply goNoU; (· (simp; exact rfl))) | (apply goIfT; (· (simp [*]; done))) | (apply goIfF; (· (simp [*]; done))) | (apply goIf; (· (simp; exact rfl)); (· with_reducible exact rfl)) | (apply goSplit; (· (simp; exact rfl)); (· with_reducible exact rfl)) | (apply goIfQ; (· (simp; exact rfl)); (· exact rfl)) | (apply goSplitQ; (· (simp; exact rfl)); (· exact rfl)) | (apply goBlkX; (· rfl)) | intro _)
      exact goEnd hw (Pre.refl _) (by simp) (by simp [rs85]; exact rfl) rfl (by simp)
    rcases h2 : meshOK sz with _ | _
    · repeat' (first | apply goSeq | apply goReg | apply goSeqN | apply goSeqR | apply goSkip | apply goRet | apply goNil | apply goBlock | apply goExit | apply goBlkN | apply goBlkR | apply goBlkE | apply goSeqE | apply goLoopR | apply goLoopE | (apply goOp; (· (simp [*]; try exact rfl)); (· exact rfl)) | (apply goOp0; (· (simp [*]; try exact rfl)); (· exact rfl)) | (apply goYes; (· (simp [*]; done)); (· (simp [*]; try exact rfl)); (· exact rfl)) | (apply goNo; (· (simp [*]; done))) | (apply goNoU; (· (simp; exact rfl))) | (apply goIfT; (· (simp [*]; done))) | (apply goIfF; (· (simp [*]; done))) | (apply goIf; (· (simp; exact rfl)); (· with_reducible exact rfl)) | (apply goSplit; (· (simp; exact rfl)); (· with_reducible exact rfl)) | (apply goIfQ; (· (simp; exact rfl)); (· exact rfl)) | (apply goSplitQ; (· (simp; exact rfl)); (· exact rfl)) | (apply goBlkX; (· rfl)) | intro _)
      exact goEnd hw (Pre.refl _) (by simp) (by simp [rs85]; exact rfl) rfl (by simp)
    repeat' (first | apply goSeq | apply goReg | apply goSeqN | apply goSeqR | apply goSkip | apply goRet | apply goNil | apply goBlock | apply goExit | apply goBlkN | apply goBlkR | apply goBlkE | apply goSeqE | apply goLoopR | apply goLoopE | (apply goOp; (· (simp [*]; try exact rfl)); (· exact rfl)) | (apply goOp0; (· (simp [*]; try exact rfl)); (· exact rfl)) | (apply goYes; (· (simp [*]; done)); (· (simp [*]; try exact rfl)); (· exact rfl)) | (apply goNo; (· (simp [*]; done))) | (apply goNoU; (· (simp; exact rfl))) | (apply goIfT; (· (simp [*]; done))) | (apply goIfF; (· (simp [*]; done))) | (apply goIf; (· (simp; exact rfl)); (· with_reducible exact rfl)) | (apply goSplit; (· (simp; exact rfl)); (· with_reducible exact rfl)) | (apply goIfQ; (· (simp; exact rfl)); (· exact rfl)) | (apply goSplitQ; (· (simp; exact rfl)); (· exact rfl)) | (apply goBlkX; (· rfl)) | intro _)
    exact goEnd hw (Pre.refl _) (by simp) (by simp [rs85]; exact rfl) rfl (by simp)
  · cases hv
@[simp] theorem F85_at (a b c : AV) (H : Hp) : F85 [a, b, c] H = (ints H a).bind fun s => (ints H b).bind fun sz => (ints H c).map fun sp => .bool (mayS s sz sp) := rfl
/-! ### the document's places -/
set_option maxHeartbeats 1000000 in
theorem snd42 : Sound Try.prog 42 (FSem.pure F96).run := by
  refine sound_of hT (EOK_cons snd101 (EOK_nil _)) mixed A42 Try.func42 hb42 (by kernel_rfl) (by kernel_rfl) (by kernel_rfl) (by kernel_rfl) sh42 2 (by kernel_rfl) rs42 hr42 ?_
  intro args H r H' hw h
  obtain ⟨rfl, hv⟩ := pureAt h
  clear h
  unfold F96 at hv
  split at hv
  · rename_i a v
    obtain ⟨sz, hsz, hv⟩ := Option.bind_eq_some_iff.1 hv
    obtain ⟨l, hl, hv⟩ := Option.map_eq_some_iff.1 hv
    cases hv
    have hlen := alenS_ints hl
    have hb := ints_len hl
    have hlen2 := alenS_ints hsz
    have hix := aidxS_ints hl .i64
    have hld := aload_nth T3 rfl hl
    have hix2 := aidxS_ints hsz .i64
    have hld2 := aload_nth T3 rfl hsz
    have e1 := r1OK_eq sz
    refine ⟨rfl, go ?_⟩
    unfold c42
    simp only [argSl]
    simp only [← aidx22, ← alen22] at hix hlen hix2 hlen2
    rcases hm : shapeOK sz with _ | _
    · repeat' (first | apply goSeq | apply goReg | apply goSeqN | apply goSeqR | apply goSkip | apply goRet | apply goNil | apply goBlock | apply goExit | apply goBlkN | apply goBlkR | apply goBlkE | apply goSeqE | apply goLoopR | apply goLoopE | (apply goOp; (· (simp [*]; try exact rfl)); (· exact rfl)) | (apply goOp0; (· (simp [*]; try exact rfl)); (· exact rfl)) | (apply goYes; (· (simp [*]; done)); (· (simp [*]; try exact rfl)); (· exact rfl)) | (apply goNo; (· (simp [*]; done))) | (apply goNoU; (· (simp; exact rfl))) | (apply goIfT; (· (simp [*]; done))) | (apply goIfF; (· (simp [*]; done))) | (apply goIf; (· (simp; exact rfl)); (· with_reducible exact rfl)) | (apply goSplit; (· (simp; exact rfl)); (· with_reducible exact rfl)) | (apply goIfQ; (· (simp; exact rfl)); (· exact rfl)) | (apply goSplitQ; (· (simp; exact rfl)); (· exact rfl)) | (apply goBlkX; (· rfl)) | intro _)
      refine goEnd hw (Pre.refl _) (by simp) (by simp [rs42]; exact rfl) rfl ?_
      simp [idxL, hm]
    · by_cases hll : l.length = sz.length
      · have hres : idxL sz l = ofGo 0 sz l := by simp [idxL, hm, hll]
        have hll' : (sz.length : Int) = l.length := by omega
        rw [hres]
        rw [hll'] at hix2 hld2 hlen2
        have hll'' : l.length = sz.length := hll
        clear hll hll' hres
        replace hll'' := Hide.mk hll''
        repeat' (first | apply goSeq | apply goReg | apply goSeqN | apply goSeqR | apply goSkip | apply goRet | apply goNil | apply goBlock | apply goExit | apply goBlkN | apply goBlkR | apply goBlkE | apply goSeqE | apply goLoopR | apply goLoopE | (apply goOp; (· (simp [*]; try exact rfl)); (· exact rfl)) | (apply goOp0; (· (simp [*]; try exact rfl)); (· exact rfl)) | (apply goYes; (· (simp [*]; done)); (· (simp [*]; try exact rfl)); (· exact rfl)) | (apply goNo; (· (simp [*]; done))) | (apply goNoU; (· (simp; exact rfl))) | (apply goIfT; (· (simp [*]; done))) | (apply goIfF; (· (simp [*]; done))) | (apply goIf; (· (simp; exact rfl)); (· with_reducible exact rfl)) | (apply goSplit; (· (simp; exact rfl)); (· with_reducible exact rfl)) | (apply goIfQ; (· (simp; exact rfl)); (· exact rfl)) | (apply goSplitQ; (· (simp; exact rfl)); (· exact rfl)) | (apply goBlkX; (· rfl)) | intro _)
        refine goLoop (fun m s1 H1 => H1 = H' ∧ ∃ (i : Nat) (d : Int), m = l.length - i ∧ i ≤ l.length ∧ get s1 0 = a ∧ get s1 1 = v ∧ get s1 5 = .int .i64 d ∧ get s1 6 = .int .i64 i ∧ ofGo d (sz.drop i) (l.drop i) = ofGo 0 sz l) l.length ?_ ?_
        · exact ⟨rfl, 0, 0, rfl, Nat.zero_le _, rfl, rfl, rfl, rfl, by simp⟩
        · rintro m s1 H1 ⟨rfl, i, d, hmm, hi, g1, g2, g3, g4, hgo⟩
          simp only [cut_cons, cut_nil, g1, g2, g3, g4]
          clear g1 g2 g3 g4
          have hi0 : (0 : Int) ≤ i := Int.natCast_nonneg i
          have hw1 : w ((i : Int) + 1) = ((i + 1 : Nat) : Int) := w_id (by omega)
          have hd := fun h => drop_nth l i h
          have hd2 : i < l.length → sz.drop i = nth sz i :: sz.drop (i + 1) := fun h => drop_nth sz i (by have := hll''.out; omega)
          have hnil : ¬ i < l.length → l.drop i = [] := fun h => List.drop_of_length_le (by omega)
          replace hgo := Hide.mk hgo
          replace hd := Hide.mk hd
          replace hd2 := Hide.mk hd2
          replace hnil := Hide.mk hnil
          repeat' (first | apply goSeq | apply goReg | apply goSeqN | apply goSeqR | apply goSkip | apply goRet | apply goNil | apply goBlock | apply goExit | apply goBlkN | apply goBlkR | apply goBlkE | apply goSeqE | apply goLoopR | apply goLoopE | (apply goOp; (· (simp [*]; try exact rfl)); (· exact rfl)) | (apply goOp0; (· (simp [*]; try exact rfl)); (· exact rfl)) | (apply goYes; (· (simp [*]; done)); (· (simp [*]; try exact rfl)); (· exact rfl)) | (apply goNo; (· (simp [*]; done))) | (apply goNoU; (· (simp; exact rfl))) | (apply goIfT; (· (simp [*]; done))) | (apply goIfF; (· (simp [*]; done))) | (apply goIf; (· (simp; exact rfl)); (· with_reducible exact rfl)) | (apply goSplit; (· (simp; exact rfl)); (· with_reducible exact rfl)) | (apply goIfQ; (· (simp; exact rfl)); (· exact rfl)) | (apply goSplitQ; (· (simp; exact rfl)); (· exact rfl)) | (apply goBlkX; (· rfl)) | intro _)
          all_goals replace hgo := hgo.out
          all_goals replace hd := hd.out
          all_goals replace hd2 := hd2.out
          all_goals (try simp only [Bool.not_eq_true', decide_eq_false_iff_not, Bool.not_eq_false', decide_eq_true_eq] at *)
          all_goals first
            | (refine goEnd hw (Pre.refl _) (by simp) (by simp [rs42]; exact rfl) rfl ?_; rw [← hgo, hd (by assumption), hd2 (by assumption)]; simp [ofGo, *]; done)
            | (refine goEnd hw (Pre.refl _) (by simp) (by simp [rs42]; exact rfl) rfl ?_; rw [← hgo, hnil.out (by assumption)]; cases sz.drop i <;> simp [ofGo]; done)
            | (refine goLoopN (l.length - (i + 1)) (by omega) ⟨rfl, i + 1, _, rfl, by omega, rfl, rfl, rfl, rfl, ?_⟩; rw [← hgo, hd (by assumption), hd2 (by assumption)]; simp [ofGo, *])
      · repeat' (first | apply goSeq | apply goReg | apply goSeqN | apply goSeqR | apply goSkip | apply goRet | apply goNil | apply goBlock | apply goExit | apply goBlkN | apply goBlkR | apply goBlkE | apply goSeqE | apply goLoopR | apply goLoopE | (apply goOp; (· (simp [*]; try exact rfl)); (· exact rfl)) | (apply goOp0; (· (simp [*]; try exact rfl)); (· exact rfl)) | (apply goYes; (· (simp [*]; done)); (· (simp [*]; try exact rfl)); (· exact rfl)) | (apply goNo; (· (simp [*]; done))) | (apply goNoU; (· (simp; exact rfl))) | (apply goIfT; (· (simp [*]; done))) | (apply goIfF; (· (simp [*]; done))) | (apply goIf; (· (simp; exact rfl)); (· with_reducible exact rfl)) | (apply goSplit; (· (simp; exact rfl)); (· with_reducible exact rfl)) | (apply goIfQ; (· (simp; exact rfl)); (· exact rfl)) | (apply goSplitQ; (· (simp; exact rfl)); (· exact rfl)) | (apply goBlkX; (· rfl)) | intro _)
        · refine goEnd hw (Pre.refl _) (by simp) (by simp [rs42]; exact rfl) rfl ?_
          simp [idxL, hm, hll]
        · rename_i hc
          simp at hc
          omega
  · cases hv
set_option maxHeartbeats 1000000 in
theorem snd41 : Sound Try.prog 41 (FSem.eff F95).run := by
  refine sound_of hT (EOK_cons snd100 (EOK_nil _)) mixed A41 Try.func41 hb41 (by kernel_rfl) (by kernel_rfl) (by kernel_rfl) (by kernel_rfl) sh41 2 (by kernel_rfl) rs41 hr41 ?_
  intro args H r H' hw h
  have hv : F95 args H = some (r, H') := h
  clear h
  unfold F95 at hv
  split at hv
  · rename_i v d
    obtain ⟨l, hl, hv⟩ := Option.map_eq_some_iff.1 hv
    have hlen := alenS_ints hl
    have hb := ints_len hl
    have hix := aidxS_ints hl .i64
    have hld := fun {H1 : Hp} (he : Pre H H1) => aload_nth T3 rfl (ints_ext he hl)
    refine ⟨rfl, go ?_⟩
    unfold c41
    simp only [argSl]
    simp only [← aidx22, ← alen22] at hix hlen
    replace hv := Hide.mk hv
    repeat' (first | apply goSeq | apply goReg | apply goSeqN | apply goSeqR | apply goSkip | apply goRet | apply goNil | apply goBlock | apply goExit | apply goBlkN | apply goBlkR | apply goBlkE | apply goSeqE | apply goLoopR | apply goLoopE | (apply goOp; (· (simp [*]; try exact rfl)); (· exact rfl)) | (apply goOp0; (· (simp [*]; try exact rfl)); (· exact rfl)) | (apply goYes; (· (simp [*]; done)); (· (simp [*]; try exact rfl)); (· exact rfl)) | (apply goNo; (· (simp [*]; done))) | (apply goNoU; (· (simp; exact rfl))) | (apply goIfT; (· (simp [*]; done))) | (apply goIfF; (· (simp [*]; done))) | (apply goIf; (· (simp; exact rfl)); (· with_reducible exact rfl)) | (apply goSplit; (· (simp; exact rfl)); (· with_reducible exact rfl)) | (apply goIfQ; (· (simp; exact rfl)); (· exact rfl)) | (apply goSplitQ; (· (simp; exact rfl)); (· exact rfl)) | (apply goBlkX; (· rfl)) | intro _)
    · rename_i h1
      replace hv := hv.out
      rw [if_pos (.inl h1)] at hv
      exact goEndS (l := []) hw (Ext.refl hw) (.inl ⟨rfl, rfl⟩) (by simp) (by simp [rs41]) rfl hv
    · rename_i h1 h2
      replace hv := hv.out
      rw [if_pos (.inr h2)] at hv
      exact goEndS (l := []) hw (Ext.refl hw) (.inl ⟨rfl, rfl⟩) (by simp) (by simp [rs41]) rfl hv
    · rename_i h1 h2
      replace hv := hv.out
      rw [if_neg (by omega)] at hv
      have hm : shapeOK l = true := by
        rcases hmm : shapeOK l with _ | _
        · exfalso; simp [sizeOf, hmm] at h2; omega
        · rfl
      obtain ⟨h3, hpos⟩ := shape_pos hm (by have : sizeOf l = prodW 1 l := by simp [sizeOf, hm]
                                            omega)
      obtain ⟨u, H1, e, ho, he⟩ := make_own (Ext.refl hw) l.length (by omega)
      refine goOp (v := u) (H' := H1) rfl (by simp; exact e) ?_
      replace hv := Hide.mk hv
      repeat' (first | apply goSeq | apply goReg | apply goSeqN | apply goSeqR | apply goSkip | apply goRet | apply goNil | apply goBlock | apply goExit | apply goBlkN | apply goBlkR | apply goBlkE | apply goSeqE | apply goLoopR | apply goLoopE | (apply goOp; (· (simp [*]; try exact rfl)); (· exact rfl)) | (apply goOp0; (· (simp [*]; try exact rfl)); (· exact rfl)) | (apply goYes; (· (simp [*]; done)); (· (simp [*]; try exact rfl)); (· exact rfl)) | (apply goNo; (· (simp [*]; done))) | (apply goNoU; (· (simp; exact rfl))) | (apply goIfT; (· (simp [*]; done))) | (apply goIfF; (· (simp [*]; done))) | (apply goIf; (· (simp; exact rfl)); (· with_reducible exact rfl)) | (apply goSplit; (· (simp; exact rfl)); (· with_reducible exact rfl)) | (apply goIfQ; (· (simp; exact rfl)); (· exact rfl)) | (apply goSplitQ; (· (simp; exact rfl)); (· exact rfl)) | (apply goBlkX; (· rfl)) | intro _)
      have hwl : w ((l.length : Int) - 1) = (l.length : Int) - 1 := w_id (by omega)
      rw [hwl]
      refine goLoop (fun m s1 H1 => Ext H H1 ∧ ∃ (d1 : Int) (out : List Int) (u : AV), m ≤ l.length ∧ get s1 0 = v ∧ get s1 1 = .int .i64 d1 ∧ get s1 5 = u ∧ get s1 6 = .int .i64 ((m : Int) - 1) ∧ OwnF H H1 u out ∧ out.length = l.length ∧ atW l m d1 out = meshAt l d) l.length ?_ ?_
      · exact ⟨he, d, _, u, Nat.le_refl _, rfl, rfl, rfl, rfl, ho, by simp, rfl⟩
      · clear he ho e hwl h1 h2 hm
        rintro m s1 H1 ⟨he, d1, out, u, hi, g1, g2, g3, g4, ho, hol, hgo⟩
        have hixu := aidxS_ints (ints_of_ownF ho (by omega)) .i64
        simp only [← aidx22] at hixu
        have hl1 := hld he.pre
        cases m with
        | zero =>
          simp only [cut_cons, cut_nil, g1, g2, g3, g4]
          clear g1 g2 g3 g4
          replace ho := Hide.mk ho
          replace hgo := Hide.mk hgo
          repeat' (first | apply goSeq | apply goReg | apply goSeqN | apply goSeqR | apply goSkip | apply goRet | apply goNil | apply goBlock | apply goExit | apply goBlkN | apply goBlkR | apply goBlkE | apply goSeqE | apply goLoopR | apply goLoopE | (apply goOp; (· (simp [*]; try exact rfl)); (· exact rfl)) | (apply goOp0; (· (simp [*]; try exact rfl)); (· exact rfl)) | (apply goYes; (· (simp [*]; done)); (· (simp [*]; try exact rfl)); (· exact rfl)) | (apply goNo; (· (simp [*]; done))) | (apply goNoU; (· (simp; exact rfl))) | (apply goIfT; (· (simp [*]; done))) | (apply goIfF; (· (simp [*]; done))) | (apply goIf; (· (simp; exact rfl)); (· with_reducible exact rfl)) | (apply goSplit; (· (simp; exact rfl)); (· with_reducible exact rfl)) | (apply goIfQ; (· (simp; exact rfl)); (· exact rfl)) | (apply goSplitQ; (· (simp; exact rfl)); (· exact rfl)) | (apply goBlkX; (· rfl)) | intro _)
          refine goEndF hw he ho.out (by simp) (by simp [rs41]) rfl ?_
          rw [← hv.out, ← hgo.out]
          rfl
        | succ m =>
          rw [show (((m + 1 : Nat) : Int) - 1) = (m : Int) by omega] at g4
          simp only [cut_cons, cut_nil, g1, g2, g3, g4]
          clear g1 g2 g3 g4
          have hm0 : (0 : Int) ≤ m := Int.natCast_nonneg m
          have hml : m < l.length := by omega
          have hne : ¬ nth l m = 0 := by have := hpos m hml; omega
          have hwm : w ((m : Int) - 1) = (m : Int) - 1 := w_id (by omega)
          replace ho := Hide.mk ho
          replace hgo := Hide.mk hgo
          repeat' (first | apply goSeq | apply goReg | apply goSeqN | apply goSeqR | apply goSkip | apply goRet | apply goNil | apply goBlock | apply goExit | apply goBlkN | apply goBlkR | apply goBlkE | apply goSeqE | apply goLoopR | apply goLoopE | (apply goOp; (· (simp [*]; try exact rfl)); (· exact rfl)) | (apply goOp0; (· (simp [*]; try exact rfl)); (· exact rfl)) | (apply goYes; (· (simp [*]; done)); (· (simp [*]; try exact rfl)); (· exact rfl)) | (apply goNo; (· (simp [*]; done))) | (apply goNoU; (· (simp; exact rfl))) | (apply goIfT; (· (simp [*]; done))) | (apply goIfF; (· (simp [*]; done))) | (apply goIf; (· (simp; exact rfl)); (· with_reducible exact rfl)) | (apply goSplit; (· (simp; exact rfl)); (· with_reducible exact rfl)) | (apply goIfQ; (· (simp; exact rfl)); (· exact rfl)) | (apply goSplitQ; (· (simp; exact rfl)); (· exact rfl)) | (apply goBlkX; (· rfl)) | intro _)
          obtain ⟨H2, e, ho', he'⟩ := store_own hw he ho.out m (by omega) (d1.tmod (nth l m))
          have hl2 := hld he'.pre
          refine goOp0 (v := .bad) (H' := H2) rfl (by simp [e]) ?_
          replace ho' := Hide.mk ho'
          clear e
          repeat' (first | apply goSeq | apply goReg | apply goSeqN | apply goSeqR | apply goSkip | apply goRet | apply goNil | apply goBlock | apply goExit | apply goBlkN | apply goBlkR | apply goBlkE | apply goSeqE | apply goLoopR | apply goLoopE | (apply goOp; (· (simp [*]; try exact rfl)); (· exact rfl)) | (apply goOp0; (· (simp [*]; try exact rfl)); (· exact rfl)) | (apply goYes; (· (simp [*]; done)); (· (simp [*]; try exact rfl)); (· exact rfl)) | (apply goNo; (· (simp [*]; done))) | (apply goNoU; (· (simp; exact rfl))) | (apply goIfT; (· (simp [*]; done))) | (apply goIfF; (· (simp [*]; done))) | (apply goIf; (· (simp; exact rfl)); (· with_reducible exact rfl)) | (apply goSplit; (· (simp; exact rfl)); (· with_reducible exact rfl)) | (apply goIfQ; (· (simp; exact rfl)); (· exact rfl)) | (apply goSplitQ; (· (simp; exact rfl)); (· exact rfl)) | (apply goBlkX; (· rfl)) | intro _)
          exact goLoopN m (by omega) ⟨he', _, _, u, by omega, rfl, rfl, rfl, rfl, ho'.out, by simp [hol], by rw [← hgo.out]; rfl⟩
  · cases hv
/-! ### a list that grows beside others -/
theorem trG_S (l : List Int) : trG l.length 1 (trI l) = trS l := by
  unfold trG trS
  by_cases h : l = []
  · simp [h]
  · rw [if_neg (by simpa using h), if_neg h]
theorem rep_appI {c : Nat} {H : Hp} {l : List Int} {v : AV} {bs : List (Nat × Nat)} (hw : Wf H) (hc : c ≤ H.c) (h : Rep c H (trS l) v bs) (hl : l.length < 1099511627776) (hnd : bs.Nodup) (n : Int) :
    ∃ v' H' b' ver', aapp T false 22 22 v (.sl H.bs.length H.c 0 1 1 true) (H.new [.int .i64 n]) = some (v', H') ∧ Rep c H' (trS (l ++ [n])) v' [(b', ver')] ∧ H.c ≤ ver' ∧ ver' < H'.c ∧ (∀ b1 v1, (b1, v1) ∉ bs → Keeps H H' b1 v1) ∧ (∀ H0, Wf H0 → Ext H0 H → H0.c ≤ c → Ext H0 H') := by
  obtain ⟨v', H', bs', bk, b', ver', e1, r1, hbs, _, _, h1, h2, hk, hx⟩ := rep_app (t := 22) (e := 3) (es := 1) (n := l.length) (cs := trI l) (xt := [.at (.int .i64 n)]) (xs := [.int .i64 n]) (bx := []) D22 T3 rfl (by decide) hw hc (by rw [trG_S]; exact h)
    (by simp only [Reps, Rep]; exact ⟨_, _, [], [], rfl, ⟨rfl, rfl, rfl⟩, ⟨rfl, rfl⟩, rfl⟩) (by simp [trI]) rfl (by decide) (by simp [maxBytes]; omega) hnd (by simp)
  have e2 : trG (l.length + 1) 1 (trI l ++ [.at (.int .i64 n)]) = trS (l ++ [n]) := by
    rw [← trG_S]; simp [trI]
  rw [e2] at r1
  have hbs1 : bs' = [(b', ver')] := by
    rcases rep_S.1 r1 with ⟨h0, _⟩ | ⟨b, ver, _, _, _, _, h0⟩
    · simp at h0
    · rw [h0] at hbs ⊢
      have hlen := congrArg List.length hbs
      have hbk : bk = [] := by simpa using hlen.symm
      subst hbk
      simpa using hbs
  subst hbs1
  exact ⟨v', H', b', ver', e1, r1, h1, h2, hk, hx⟩
theorem rep_tup2 {c : Nat} {H : Hp} {a b : Tr} {x y : AV} {b1 b2 : List (Nat × Nat)} (h1 : Rep c H a x b1) (h2 : Rep c H b y b2) : Rep c H (.tup [a, b]) (.tup [x, y]) (b1 ++ b2) := by
  simp only [Rep, Reps]
  exact ⟨_, rfl, x, _, b1, b2, rfl, h1, ⟨y, _, b2, [], rfl, h2, ⟨rfl, rfl⟩, by simp⟩, rfl⟩
theorem mayS_cut {s sz sp : List Int} {d : Int} (h : mayS s sz sp = true) (h0 : 0 ≤ d) (h1 : d < devs sz) : mayCut s sz sp d := by
  simp only [mayS, Bool.and_eq_true] at h
  exact ⟨h.1.1, h.2, h0, h1⟩
theorem not_mayS {s sz sp : List Int} {d : Int} (h : mayS s sz sp = false) : ¬ mayCut s sz sp d := by
  rintro ⟨h1, h2, _⟩
  have h3 := (specOK_lt h2).2.1
  simp [mayS, h1, h2, h3] at h
theorem no_cut {s sz sp : List Int} {d : Int} (h : ¬ mayCut s sz sp d) : fromL s sz sp d = [] ∧ sizeL s sz sp d = [] := by
  unfold fromL sizeL cutsL
  rw [if_neg h]
  exact ⟨rfl, rfl⟩
/-- Where a device's part begins, how long it is. -/
noncomputable def tileTr (s sz sp : List Int) (d : Int) : Tr := .tup [trS (fromL s sz sp d), trS (sizeL s sz sp d)]
noncomputable def F40 (args : List AV) (H : Hp) : Option (AV × Hp) := match args with
  | [a, b, c, .int .i64 d] => (ints H a).bind fun s => (ints H b).bind fun sz => (ints H c).map fun sp => mk (tileTr s sz sp d) H
  | _ => none
set_option maxHeartbeats 2000000 in
theorem snd40 : Sound Try.prog 40 (FSem.eff F40).run := by
  refine sound_of hT (EOK_cons snd20 (EOK_cons snd85 (EOK_cons snd98 (EOK_cons snd99 (EOK_nil _))))) mixed A40 Try.func40 hb40 (by kernel_rfl) (by kernel_rfl) (by kernel_rfl) (by kernel_rfl) sh40 4 (by kernel_rfl) rs40 hr40 ?_
  intro args H r H' hw h
  have hv : F40 args H = some (r, H') := h
  clear h
  unfold F40 at hv
  split at hv
  · rename_i a b c d
    obtain ⟨s, hs, hv⟩ := Option.bind_eq_some_iff.1 hv
    obtain ⟨sz, hsz, hv⟩ := Option.bind_eq_some_iff.1 hv
    obtain ⟨sp, hsp, hv⟩ := Option.map_eq_some_iff.1 hv
    have hvv := Hide.mk hv
    clear hv
    have hrd := rDevs_eq sz
    refine ⟨rfl, go ?_⟩
    unfold c40
    simp only [argSl]
    have hnil : ¬ mayCut s sz sp d → mk (.tup [.at .nilS, .at .nilS]) H = (r, H') := fun hn => by
      have h0 := no_cut hn
      have := hvv.out
      simpa [tileTr, h0.1, h0.2, trS] using this
    have hrn : Rep H.c H (.tup [.at .nilS, .at .nilS]) (xret [.nilS, .nilS]) [] := rep_tup2 (b1 := []) (b2 := []) (by simp [Rep, old]) (by simp [Rep, old])
    replace hnil := Hide.mk hnil
    replace hrn := Hide.mk hrn
    rcases h1 : mayS s sz sp with _ | _
    · repeat' (first | apply goSeq | apply goReg | apply goSeqN | apply goSeqR | apply goSkip | apply goRet | apply goNil | apply goBlock | apply goExit | apply goBlkN | apply goBlkR | apply goBlkE | apply goSeqE | apply goLoopR | apply goLoopE | (apply goOp; (· (simp [*]; try exact rfl)); (· exact rfl)) | (apply goOp0; (· (simp [*]; try exact rfl)); (· exact rfl)) | (apply goYes; (· (simp [*]; done)); (· (simp [*]; try exact rfl)); (· exact rfl)) | (apply goNo; (· (simp [*]; done))) | (apply goNoU; (· (simp; exact rfl))) | (apply goIfT; (· (simp [*]; done))) | (apply goIfF; (· (simp [*]; done))) | (apply goIf; (· (simp; exact rfl)); (· with_reducible exact rfl)) | (apply goSplit; (· (simp; exact rfl)); (· with_reducible exact rfl)) | (apply goIfQ; (· (simp; exact rfl)); (· exact rfl)) | (apply goSplitQ; (· (simp; exact rfl)); (· exact rfl)) | (apply goBlkX; (· rfl)) | intro _)
      exact goEndR (vs := [.nilS, .nilS]) (bs := []) (d := H.c) hw (Pre.refl _) hrn.out (Fresh.nil _ _) (by simp) (by simp [rs40]) rfl (hnil.out (not_mayS h1))
    by_cases h2 : d < 0
    · repeat' (first | apply goSeq | apply goReg | apply goSeqN | apply goSeqR | apply goSkip | apply goRet | apply goNil | apply goBlock | apply goExit | apply goBlkN | apply goBlkR | apply goBlkE | apply goSeqE | apply goLoopR | apply goLoopE | (apply goOp; (· (simp [*]; try exact rfl)); (· exact rfl)) | (apply goOp0; (· (simp [*]; try exact rfl)); (· exact rfl)) | (apply goYes; (· (simp [*]; done)); (· (simp [*]; try exact rfl)); (· exact rfl)) | (apply goNo; (· (simp [*]; done))) | (apply goNoU; (· (simp; exact rfl))) | (apply goIfT; (· (simp [*]; done))) | (apply goIfF; (· (simp [*]; done))) | (apply goIf; (· (simp; exact rfl)); (· with_reducible exact rfl)) | (apply goSplit; (· (simp; exact rfl)); (· with_reducible exact rfl)) | (apply goIfQ; (· (simp; exact rfl)); (· exact rfl)) | (apply goSplitQ; (· (simp; exact rfl)); (· exact rfl)) | (apply goBlkX; (· rfl)) | intro _)
      exact goEndR (vs := [.nilS, .nilS]) (bs := []) (d := H.c) hw (Pre.refl _) hrn.out (Fresh.nil _ _) (by simp) (by simp [rs40]) rfl (hnil.out fun hc => by have := hc.2.2.1; omega)
    by_cases h3 : devs sz ≤ d
    · repeat' (first | apply goSeq | apply goReg | apply goSeqN | apply goSeqR | apply goSkip | apply goRet | apply goNil | apply goBlock | apply goExit | apply goBlkN | apply goBlkR | apply goBlkE | apply goSeqE | apply goLoopR | apply goLoopE | (apply goOp; (· (simp [*]; try exact rfl)); (· exact rfl)) | (apply goOp0; (· (simp [*]; try exact rfl)); (· exact rfl)) | (apply goYes; (· (simp [*]; done)); (· (simp [*]; try exact rfl)); (· exact rfl)) | (apply goNo; (· (simp [*]; done))) | (apply goNoU; (· (simp; exact rfl))) | (apply goIfT; (· (simp [*]; done))) | (apply goIfF; (· (simp [*]; done))) | (apply goIf; (· (simp; exact rfl)); (· with_reducible exact rfl)) | (apply goSplit; (· (simp; exact rfl)); (· with_reducible exact rfl)) | (apply goIfQ; (· (simp; exact rfl)); (· exact rfl)) | (apply goSplitQ; (· (simp; exact rfl)); (· exact rfl)) | (apply goBlkX; (· rfl)) | intro _)
      exact goEndR (vs := [.nilS, .nilS]) (bs := []) (d := H.c) hw (Pre.refl _) hrn.out (Fresh.nil _ _) (by simp) (by simp [rs40]) rfl (hnil.out fun hc => by have := hc.2.2.2; omega)
    have hc := mayS_cut h1 (by omega) (by omega : d < devs sz)
    obtain ⟨hl1, hm, hri⟩ := specOK_lt hc.2.1
    obtain ⟨hfl, hql, _⟩ := part_rng hc
    have hr := (shapeOK_rng hc.1).2
    have h4 := (shapeOK_rng hc.1).1
    have hmi := (meshOK_pos hm).2
    have hm3 := (meshOK_pos hm).1
    have hati := fun j hj => meshAt_in hm hc.2.2.1 hc.2.2.2 j hj
    have hpa := fun i hi => part_at hc i hi
    have hal := meshAt_len sz d
    have hFt : tileTr s sz sp d = .tup [trS (fromL s sz sp d), trS (sizeL s sz sp d)] := rfl
    generalize fromL s sz sp d = FR at *
    generalize sizeL s sz sp d = SZ at *
    have x1 := mkF_ext hw (meshAt sz d)
    have hai := ints_of_ownF (mkF_own H (meshAt sz d)) (by omega)
    generalize hAT : meshAt sz d = AT at *
    have e98 : F98 [b, .int .i64 d] H = some (mkF H AT) := by
      simp only [F98_at, hsz, Option.map_some]
      rw [if_neg (by omega), hAT]
    have hs1 := ints_ext x1.pre hs
    have hsz1 := ints_ext x1.pre hsz
    have hsp1 := ints_ext x1.pre hsp
    generalize mkF H AT = r1 at *
    obtain ⟨av, H1⟩ := r1
    simp only at x1 hai hs1 hsz1 hsp1
    have hls := alenS_ints hs1
    simp only [← alen22] at hls
    have hix := aidxS_ints hs1 .i64
    have hixz := aidxS_ints hsz1 .i64
    have hixp := aidxS_ints hsp1 .i64
    have hixa := aidxS_ints hai .i64
    simp only [← aidx22] at hix hixz hixp hixa
    have hw1 := x1.wf
    replace hr := Hide.mk hr
    replace hmi := Hide.mk hmi
    replace hati := Hide.mk hati
    replace hri := Hide.mk hri
    replace hpa := Hide.mk hpa
    replace hc := Hide.mk hc
    replace x1 := Hide.mk x1
    replace hs1 := Hide.mk hs1
    replace hsz1 := Hide.mk hsz1
    replace hsp1 := Hide.mk hsp1
    replace hai := Hide.mk hai
    replace hFt := Hide.mk hFt
    replace hl1 := Hide.mk hl1
    replace hal := Hide.mk hal
    clear hAT hnil hrn
    have h3' : d < devs sz := by omega
    repeat' (first | apply goSeq | apply goReg | apply goSeqN | apply goSeqR | apply goSkip | apply goRet | apply goNil | apply goBlock | apply goExit | apply goBlkN | apply goBlkR | apply goBlkE | apply goSeqE | apply goLoopR | apply goLoopE | (apply goOp; (· (simp [*]; try exact rfl)); (· exact rfl)) | (apply goOp0; (· (simp [*]; try exact rfl)); (· exact rfl)) | (apply goYes; (· (simp [*]; done)); (· (simp [*]; try exact rfl)); (· exact rfl)) | (apply goNo; (· (simp [*]; done))) | (apply goNoU; (· (simp; exact rfl))) | (apply goIfT; (· (simp [*]; done))) | (apply goIfF; (· (simp [*]; done))) | (apply goIf; (· (simp; exact rfl)); (· with_reducible exact rfl)) | (apply goSplit; (· (simp; exact rfl)); (· with_reducible exact rfl)) | (apply goIfQ; (· (simp; exact rfl)); (· exact rfl)) | (apply goSplitQ; (· (simp; exact rfl)); (· exact rfl)) | (apply goBlkX; (· rfl)) | intro _)
    refine goLoop (fun m s1 G => ∃ (i : Nat) (u z : AV) (bu bz : List (Nat × Nat)), m = s.length - i ∧ i ≤ s.length ∧ get s1 0 = a ∧ get s1 1 = b ∧ get s1 2 = c ∧ get s1 10 = av ∧ get s1 11 = u ∧ get s1 12 = z ∧ get s1 35 = .int .i64 s.length ∧ get s1 36 = .int .i64 i ∧ Ext H1 G ∧ Rep H1.c G (trS (FR.take i)) u bu ∧ Rep H1.c G (trS (SZ.take i)) z bz ∧ Fresh H1.c G.c (bu ++ bz)) s.length ?_ ?_
    · exact ⟨0, .nilS, .nilS, [], [], rfl, Nat.zero_le _, rfl, rfl, rfl, rfl, rfl, rfl, rfl, rfl, Ext.refl hw1, by simp [trS, Rep, old], by simp [trS, Rep, old], Fresh.nil _ _⟩
    rintro m s1 G ⟨i, u, z, bu, bz, hmm, hi, g1, g2, g3, g4, g5, g6, g7, g8, hx, ru, rz, hf⟩
    simp only [cut_cons, cut_nil, g1, g2, g3, g4, g5, g6, g7, g8]
    clear g1 g2 g3 g4 g5 g6 g7 g8
    have hi0 : (0 : Int) ≤ i := Int.natCast_nonneg i
    have hwi : w ((i : Int) + 1) = ((i + 1 : Nat) : Int) := w_id (by omega)
    by_cases his : i < s.length
    · have his' : (i : Int) < s.length := by omega
      have hl1' := hl1.out
      have hal' := hal.out
      obtain ⟨p1, p2⟩ := hpa.out i his
      have hrs := hr.out i his
      have hrp := hri.out i (by omega)
      have hsG := ints_ext hx.pre hs1.out
      have hzG := ints_ext hx.pre hsz1.out
      have hpG := ints_ext hx.pre hsp1.out
      have haG := ints_ext hx.pre hai.out
      have is := (hix i).trans (if_pos (by omega))
      have ip := (hixp i).trans (if_pos (by omega))
      have ls := aload_nth T3 rfl hsG i hi0 (by omega)
      have lp := aload_nth T3 rfl hpG i hi0 (by omega)
      have hdis := List.nodup_append.1 hf.1
      have ef := take_nth FR i (by omega)
      have ez := take_nth SZ i (by omega)
      obtain ⟨A, B, hAB⟩ : ∃ A B, cutAt s sz AT i (nth sp i) = (A, B) := ⟨_, _, rfl⟩
      rw [hAB] at p1 p2
      simp only at p1 p2
      rw [p1] at ef
      rw [p2] at ez
      obtain ⟨u', G1, bu', vu', e1, ru1, hv1, hv1', k1, hx1⟩ := rep_appI hx.wf hx.c ru (by simp; omega) hdis.1 A
      have x1G := hx1 H1 hw1 hx (Nat.le_refl _)
      have rz1 := Rep.keep _ (fun p hp => k1 p.1 p.2 (fun hm => hdis.2.2 p hm p hp rfl)) rz
      obtain ⟨z', G2, bz', vz', e2, rz2, hv2, hv2', k2, hx2⟩ := rep_appI x1G.wf x1G.c rz1 (by simp; omega) hdis.2.1 (w (B - A))
      have x2G := hx2 H1 hw1 x1G (Nat.le_refl _)
      have ru2 := Rep.keep _ (fun p hp => k2 p.1 p.2 (fun hm => by have := (hf.2 p (by simp [hm])).2; simp at hp; subst hp; simp only at this; omega)) ru1
      rw [← ef] at ru2
      rw [← ez] at rz2
      have hf2 : Fresh H1.c G2.c ([(bu', vu')] ++ [(bz', vz')]) := (Fresh.one (c := H1.c) (d := G1.c) (by have := hx.c; omega) hv1').app (Fresh.one hv2 hv2') x1G.c (by omega)
      clear hsG hpG ru rz rz1 ru1 k1 k2 hx1 hx2 x1G hdis hf p1 p2 ef ez hix hixp hrs hv1 hv1' hv2 hv2' hx
      replace x2G := Hide.mk x2G
      replace ru2 := Hide.mk ru2
      replace rz2 := Hide.mk rz2
      replace hf2 := Hide.mk hf2
      unfold cutAt at hAB
      by_cases hk : 0 ≤ nth sp i
      · rw [if_pos hk] at hAB
        obtain ⟨k, hk'⟩ : ∃ k : Nat, nth sp i = k := ⟨(nth sp i).toNat, by omega⟩
        rw [hk'] at hAB hk hrp lp
        have hkz : k < sz.length := by omega
        have iz := (hixz k).trans (if_pos (by omega))
        have ia := (hixa k).trans (if_pos (by omega))
        have lz := aload_nth T3 rfl hzG k (by omega) (by omega)
        have la := aload_nth T3 rfl haG k (by omega) (by omega)
        have hcR := cutR_eq (hr.out i his) (hmi.out k hkz) (hati.out k hkz)
        rw [hAB] at hcR
        have hk'' : ¬ (k : Int) < 0 := by omega
        clear hAB hzG haG hixz hixa hrp hk' hl1' hal'
        repeat' (first | apply goSeq | apply goReg | apply goSeqN | apply goSeqR | apply goSkip | apply goRet | apply goNil | apply goBlock | apply goExit | apply goBlkN | apply goBlkR | apply goBlkE | apply goSeqE | apply goLoopR | apply goLoopE | (apply goOp; (· (simp [*]; try exact rfl)); (· exact rfl)) | (apply goOp0; (· (simp [*]; try exact rfl)); (· exact rfl)) | (apply goYes; (· (simp [*]; done)); (· (simp [*]; try exact rfl)); (· exact rfl)) | (apply goNo; (· (simp [*]; done))) | (apply goNoU; (· (simp; exact rfl))) | (apply goIfT; (· (simp [*]; done))) | (apply goIfF; (· (simp [*]; done))) | (apply goIf; (· (simp; exact rfl)); (· with_reducible exact rfl)) | (apply goSplit; (· (simp; exact rfl)); (· with_reducible exact rfl)) | (apply goIfQ; (· (simp; exact rfl)); (· exact rfl)) | (apply goSplitQ; (· (simp; exact rfl)); (· exact rfl)) | (apply goBlkX; (· rfl)) | intro _)
        exact goLoopN (s.length - (i + 1)) (by omega) ⟨i + 1, u', z', _, _, rfl, by omega, rfl, rfl, rfl, rfl, rfl, rfl, rfl, rfl, x2G.out, ru2.out, rz2.out, hf2.out⟩
      · rw [if_neg hk] at hAB
        obtain ⟨rfl, rfl⟩ := Prod.mk.inj hAB
        simp only [Int.sub_zero] at e2
        clear hAB hzG haG hixz hixa hrp hl1' hal'
        repeat' (first | apply goSeq | apply goReg | apply goSeqN | apply goSeqR | apply goSkip | apply goRet | apply goNil | apply goBlock | apply goExit | apply goBlkN | apply goBlkR | apply goBlkE | apply goSeqE | apply goLoopR | apply goLoopE | (apply goOp; (· (simp [*]; try exact rfl)); (· exact rfl)) | (apply goOp0; (· (simp [*]; try exact rfl)); (· exact rfl)) | (apply goYes; (· (simp [*]; done)); (· (simp [*]; try exact rfl)); (· exact rfl)) | (apply goNo; (· (simp [*]; done))) | (apply goNoU; (· (simp; exact rfl))) | (apply goIfT; (· (simp [*]; done))) | (apply goIfF; (· (simp [*]; done))) | (apply goIf; (· (simp; exact rfl)); (· with_reducible exact rfl)) | (apply goSplit; (· (simp; exact rfl)); (· with_reducible exact rfl)) | (apply goIfQ; (· (simp; exact rfl)); (· exact rfl)) | (apply goSplitQ; (· (simp; exact rfl)); (· exact rfl)) | (apply goBlkX; (· rfl)) | intro _)
        exact goLoopN (s.length - (i + 1)) (by omega) ⟨i + 1, u', z', _, _, rfl, by omega, rfl, rfl, rfl, rfl, rfl, rfl, rfl, rfl, x2G.out, ru2.out, rz2.out, hf2.out⟩
    · have hiE : i = s.length := by omega
      subst hiE
      have his' : ¬ ((s.length : Int) < s.length) := by omega
      rw [List.take_of_length_le (by omega)] at ru rz
      replace hx := Hide.mk hx
      replace ru := Hide.mk ru
      replace rz := Hide.mk rz
      replace hf := Hide.mk hf
      repeat' (first | apply goSeq | apply goReg | apply goSeqN | apply goSeqR | apply goSkip | apply goRet | apply goNil | apply goBlock | apply goExit | apply goBlkN | apply goBlkR | apply goBlkE | apply goSeqE | apply goLoopR | apply goLoopE | (apply goOp; (· (simp [*]; try exact rfl)); (· exact rfl)) | (apply goOp0; (· (simp [*]; try exact rfl)); (· exact rfl)) | (apply goYes; (· (simp [*]; done)); (· (simp [*]; try exact rfl)); (· exact rfl)) | (apply goNo; (· (simp [*]; done))) | (apply goNoU; (· (simp; exact rfl))) | (apply goIfT; (· (simp [*]; done))) | (apply goIfF; (· (simp [*]; done))) | (apply goIf; (· (simp; exact rfl)); (· with_reducible exact rfl)) | (apply goSplit; (· (simp; exact rfl)); (· with_reducible exact rfl)) | (apply goIfQ; (· (simp; exact rfl)); (· exact rfl)) | (apply goSplitQ; (· (simp; exact rfl)); (· exact rfl)) | (apply goBlkX; (· rfl)) | intro _)
      refine goEndR (vs := [u, z]) (bs := bu ++ bz) (d := G.c) (t := .tup [trS FR, trS SZ]) hw (x1.out.pre.trans hx.out.pre) (rep_tup2 ?_ ?_) (hf.out.wide x1.out.c (Nat.le_refl _)) (by simp) (by simp [rs40]) rfl (hFt.out ▸ hvv.out)
      · exact rep_down _ (c0 := 0) (okT_S 0 FR) (Nat.zero_le _) x1.out.c ru.out
      · exact rep_down _ (c0 := 0) (okT_S 0 SZ) (Nat.zero_le _) x1.out.c rz.out
  · cases hv
/- Walks: SplitFirsts. -/
/-! ### the cells of a list of tensors -/
theorem tensG_mk {H : Hp} : ∀ (L : List TS) (cs : List AV), cs.length = L.length * 2 → (∀ j : Nat, j < L.length → ∃ x y, (cs.drop (j * 2)).take 2 = [x, y] ∧ tens H (.agg [x, y]) = some (tth L j)) → tensG H cs = some L := by
  intro L
  induction L with
  | nil => intro cs h _; have : cs = [] := List.eq_nil_of_length_eq_zero (by simpa using h); subst this; rfl
  | cons p L ih =>
    intro cs h hi
    match cs, h with
    | [], h => simp at h
    | [_], h => simp at h; omega
    | x :: y :: cs, h =>
      obtain ⟨x', y', h1, h2⟩ := hi 0 (by simp)
      simp at h1
      obtain ⟨rfl, rfl⟩ := h1
      simp only [tensG]
      rw [h2, Option.bind_some, ih cs (by simp at h; omega) (fun j hj => by
        obtain ⟨u, v, g1, g2⟩ := hi (j + 1) (by simpa using hj)
        refine ⟨u, v, ?_, by simpa [tth] using g2⟩
        have : (j + 1) * 2 = j * 2 + 2 := by omega
        rw [this] at g1
        simpa using g1)]
      simp [tth]
theorem reps_at {c : Nat} {H : Hp} : ∀ (l : List Tr) {vs : List AV} {bs : List (Nat × Nat)}, Reps c H l vs bs → ∀ (j : Nat) (v : AV), vs[j]? = some v → ∃ t bj, l[j]? = some t ∧ Rep c H t v bj ∧ ∀ p ∈ bj, p ∈ bs := by
  intro l
  induction l with
  | nil => intro vs bs h j v hv; simp only [Reps] at h; rw [h.1] at hv; simp at hv
  | cons t l ih =>
    intro vs bs h j v hv
    simp only [Reps] at h
    obtain ⟨v0, vs', b1, b2, rfl, h1, h2, rfl⟩ := h
    cases j with
    | zero => simp at hv; subst hv; exact ⟨t, b1, rfl, h1, fun p hp => by simp [hp]⟩
    | succ j =>
      obtain ⟨t', bj, g1, g2, g3⟩ := ih h2 j v (by simpa using hv)
      exact ⟨t', bj, by simpa using g1, g2, fun p hp => by simp [g3 p hp]⟩
theorem cells_S (p : List Int × List Int) (sz sp : List Int) (n : Nat) : ∀ t ∈ cellsT (partsN p sz sp n), ∃ l, t = trS l ∨ t = trF l := by
  intro t ht
  simp only [cellsT, partsN, List.flatMap_map, List.mem_flatMap] at ht
  obtain ⟨d, _, hd⟩ := ht
  simp at hd
  rcases hd with rfl | rfl
  · exact ⟨_, .inl rfl⟩
  · exact ⟨_, .inr rfl⟩
theorem off_of_rep {c : Nat} {H : Hp} {l : List Int} {t : Tr} (ht : t = trS l ∨ t = trF l) {v : AV} {bj : List (Nat × Nat)} (h : Rep c H t v bj) {b ver : Nat} {k : Blk} (hk : H.at b ver = some k) (hn : (b, ver) ∉ bj) : off v b = true := by
  have key : ∀ b1 v1 n f, H.at b1 v1 = some ⟨v1, l.map (.int .i64), true, true⟩ → bj = [(b1, v1)] → off (.sl b1 v1 0 n 1 f) b = true := by
    intro b1 v1 n f h1 h2
    have : b1 ≠ b := by
      intro e
      subst e
      obtain ⟨g1, g2⟩ := Hp.at_some h1
      obtain ⟨g3, g4⟩ := Hp.at_some hk
      rw [g1] at g3
      cases g3
      exact hn (by rw [h2]; simp at g4; simp [g4])
    simpa [off] using this
  rcases ht with rfl | rfl
  · rcases rep_S.1 h with ⟨_, rfl, _⟩ | ⟨b1, v1, rfl, _, _, h3, h4⟩
    · rfl
    · exact key b1 v1 _ _ h3 h4
  · obtain ⟨b1, v1, rfl, _, h3, h4⟩ := rep_F.1 h
    exact key b1 v1 _ _ h3 h4
/-- What All hands back, cell by cell. -/
theorem all_rep2 {H : Hp} (hw : Wf H) {p : List Int × List Int} {sz sp : List Int} (hm : mayL p sz sp = 0) (h1 : 1 ≤ (devs sz).toNat) : ∃ b ver vs A, mk (allT p sz sp) H = (.tup [.sl b ver 0 (devs sz).toNat 2 false, .int .i64 0], A) ∧ Ext H A ∧ H.c ≤ ver ∧ ver < A.c ∧ A.at b ver = some ⟨ver, vs, true, true⟩ ∧ vs.length = (devs sz).toNat * 2 ∧
    ∀ j : Nat, j < (devs sz).toNat → ∃ x y, (vs.drop (j * 2)).take 2 = [x, y] ∧ tens A (.agg [x, y]) = some (tth (allL p sz sp) j) ∧ off x b = true ∧ off y b = true := by
  obtain ⟨v, A, e1, x1, hL⟩ := all_rep hw hm
  have hres : allT p sz sp = .tup [trTs (partsN p sz sp (devs sz).toNat), .at (.int .i64 0)] := by simp [allT, hm]
  obtain ⟨bs, r1, f1, _⟩ := mk_rep (trTs (partsN p sz sp (devs sz).toNat)) (c0 := 0) hw (Nat.zero_le _) (okT_Ts 0 p sz sp _)
  rw [hres, mk_tupI] at e1
  obtain ⟨e2, e3⟩ := Prod.mk.inj e1
  simp only [AV.tup.injEq, List.cons.injEq, and_true] at e2
  rw [e2, e3] at r1
  rw [e3] at f1
  unfold trTs trG at r1
  rw [partsN_len, if_neg (by omega)] at r1
  simp only [Rep] at r1
  obtain ⟨b, ver, vs, bk, rfl, hv, hk, hr, rfl⟩ := r1
  have hvl := reps_len _ hr
  rw [cellsT_len, partsN_len] at hvl
  refine ⟨b, ver, vs, A, by rw [hres, mk_tupI, e2, e3], x1, hv, (f1.2 (b, ver) (by simp)).2, hk, hvl, fun j hj => ?_⟩
  have hnd := List.nodup_append.1 f1.1
  simp only [tensL] at hL
  split at hL
  rotate_left
  · cases hL
  rw [hk, Option.bind_some] at hL
  split at hL
  rotate_left
  · cases hL
  have hcs : (List.take ((devs sz).toNat * 2) (List.drop 0 vs)) = vs := by rw [List.drop_zero, List.take_of_length_le (by omega)]
  simp only [hcs] at hL
  obtain ⟨x, y, g1, g2⟩ := (tensG_at vs hL).2 j (by rw [allL_len]; exact hj)
  have hx : vs[j * 2]? = some x := by
    have := congrArg (fun l => l[0]?) g1
    simpa using this
  have hy : vs[j * 2 + 1]? = some y := by
    have := congrArg (fun l => l[1]?) g1
    simpa using this
  refine ⟨x, y, g1, g2, ?_, ?_⟩
  · obtain ⟨t, bj, k1, k2, k3⟩ := reps_at _ hr _ _ hx
    obtain ⟨l, hl⟩ := cells_S p sz sp _ t (List.mem_of_getElem? k1)
    exact off_of_rep hl k2 hk fun hm => hnd.2.2 _ (k3 _ hm) (b, ver) (by simp) rfl
  · obtain ⟨t, bj, k1, k2, k3⟩ := reps_at _ hr _ _ hy
    obtain ⟨l, hl⟩ := cells_S p sz sp _ t (List.mem_of_getElem? k1)
    exact off_of_rep hl k2 hk fun hm => hnd.2.2 _ (k3 _ hm) (b, ver) (by simp) rfl
theorem ints_keep {H H' : Hp} {b : Nat} (hw : Wf H) (hk : ∀ b1 v1, b1 ≠ b → v1 < H.c → Keeps H H' b1 v1) {v : AV} {l : List Int} (ho : off v b = true) (h : ints H v = some l) : ints H' v = some l := by
  unfold ints at h ⊢
  split at h
  · exact h
  · exact h
  · rename_i b1 v1 o n es f
    split at h
    · rename_i he
      split at h
      · rename_i k hk1
        have hb : b1 ≠ b := by simpa [off] using ho
        have := hk b1 v1 hb (at_lt hw hk1) k hk1
        simp only [he, this]
        exact h
      · cases h
    · cases h
  · cases h
theorem tens_keep {H H' : Hp} {b : Nat} (hw : Wf H) (hk : ∀ b1 v1, b1 ≠ b → v1 < H.c → Keeps H H' b1 v1) {x y : AV} {p : TS} (hx : off x b = true) (hy : off y b = true) (h : tens H (.agg [x, y]) = some p) : tens H' (.agg [x, y]) = some p := by
  obtain ⟨_, _, hag, h1, h2⟩ := tens_some h
  cases hag
  exact tens_of (ints_keep hw hk hx h1) (ints_keep hw hk hy h2)
theorem setAll2 (vs : List AV) (i : Nat) (x y : AV) : setAll vs i [x, y] = (vs.set i x).set (i + 1) y := rfl
theorem set2_at (vs : List AV) (k j : Nat) (x y : AV) (h : k * 2 + 2 ≤ vs.length) : (((vs.set (k * 2) x).set (k * 2 + 1) y).drop (j * 2)).take 2 = if j = k then [x, y] else (vs.drop (j * 2)).take 2 := by
  by_cases hjk : j = k
  · subst hjk
    rw [if_pos rfl]
    refine List.ext_getElem? fun i => ?_
    simp only [List.getElem?_take, List.getElem?_drop, List.getElem?_set]
    match i with
    | 0 => simp; omega
    | 1 => simp; omega
    | i + 2 => simp; omega
  · rw [if_neg hjk]
    refine List.ext_getElem? fun i => ?_
    simp only [List.getElem?_take, List.getElem?_drop]
    by_cases hi : i < 2
    · rw [if_pos hi, if_pos hi, List.getElem?_set_ne (by omega), List.getElem?_set_ne (by omega)]
    · rw [if_neg hi, if_neg hi]
/-- A tensor of a list is written anew. -/
theorem st40_at {H : Hp} {b ver k : Nat} {vs : List AV} {x y : AV} (h : H.at b ver = some ⟨ver, vs, true, true⟩) (hk : k * 2 + 2 ≤ vs.length) (hx : x.one = true) (hy : y.one = true) : astore T 40 (.ptr b ver (k * 2)) (.agg [x, y]) H = some (H.put b ⟨ver, (vs.set (k * 2) x).set (k * 2 + 1) y, true, true⟩) := by
  simp only [astore, T40, h]
  rw [if_pos (by simp [AV.cells, hx, hy]; omega)]
  simp [setAll2, AV.cells]
@[simp] theorem fa40_at0 (b v o : Nat) : afaddr' T 40 (.ptr b v o) 0 = some (.ptr b v o) := by simp
theorem ld22_at {H : Hp} {b ver : Nat} {vs : List AV} {x y : AV} {k : Nat} (h : H.at b ver = some ⟨ver, vs, true, true⟩) (hv : (vs.drop (k * 2)).take 2 = [x, y]) : aload T 22 (.ptr b ver (k * 2)) H = some x ∧ aload T 38 (.ptr b ver (k * 2 + 1)) H = some y := by
  rw [ld22 h, ld38 h]
  have h1 := congrArg (fun l => l[0]?) hv
  have h2 := congrArg (fun l => l[1]?) hv
  simp at h1 h2
  exact ⟨h1, h2⟩
theorem xdo_bs38_0 {E : Env} {sh : Bool} {s : Sl} {H : Hp} : xdo E T sh (.buildSlice 38 0 #[]) s H = some (.sl H.bs.length H.c 0 0 1 true, H.new []) := by
  simp [xdo, aop, D38, T2, rep, afill]
/-- What Tile hands back. -/
theorem tile_rep {H : Hp} (hw : Wf H) (s sz sp : List Int) (d : Int) : ∃ f z A, mk (tileTr s sz sp d) H = (.tup [f, z], A) ∧ Ext H A ∧ ints A f = some (fromL s sz sp d) ∧ ints A z = some (sizeL s sz sp d) := by
  obtain ⟨bs, h1, _, h2⟩ := mk_rep (tileTr s sz sp d) (c0 := 0) hw (Nat.zero_le _) (by simp [tileTr, okT, okTs, okT_S])
  have e : mk (tileTr s sz sp d) H = ((mk (tileTr s sz sp d) H).1, (mk (tileTr s sz sp d) H).2) := rfl
  generalize (mk (tileTr s sz sp d) H).1 = v at *
  generalize (mk (tileTr s sz sp d) H).2 = A at *
  unfold tileTr at h1
  simp only [Rep, Reps] at h1
  obtain ⟨vs, rfl, f, vs1, b1, b2, rfl, rf, ⟨z, vs2, c1, c2, rfl, rz, ⟨rfl, _⟩, _⟩, _⟩ := h1
  have l1 := sizeL_len s sz sp d
  have l2 : (fromL s sz sp d).length = (sizeL s sz sp d).length := by simp [fromL, sizeL]
  exact ⟨f, z, A, e, h2, repL_ints (by omega) (.inl rf), repL_ints (by omega) (.inl rz)⟩
theorem F40_at {H : Hp} {a b c : AV} {s sz sp : List Int} (ha : ints H a = some s) (hb : ints H b = some sz) (hc : ints H c = some sp) (d : Int) : F40 [a, b, c, .int .i64 d] H = some (mk (tileTr s sz sp d) H) := by
  show (ints H a).bind _ = _
  rw [ha, Option.bind_some, hb, Option.bind_some, hc, Option.map_some]
/-- Which device is meant. -/
theorem which (d : Int) (n : Nat) (h1 : 1 ≤ n) (h2 : n ≤ 4096) : ∃ k : Nat, (w (d.tmod n + n)).tmod n = k ∧ k < n := by
  have e1 : d.tmod n < n := Int.tmod_lt_of_pos d (by omega)
  have e2 : -(n : Int) < d.tmod n := by
    have := Int.lt_tmod_of_pos d (b := (n : Int)) (by omega)
    omega
  rw [w_id (by omega)]
  have e3 := tmod_range (d.tmod n + n) n (by omega) (by omega)
  exact ⟨((d.tmod n + n).tmod n).toNat, by omega, by omega⟩
open Classical in
noncomputable def F11 (args : List AV) (H : Hp) : Option AV := match args with
  | [v, .int .i64 _] => if ∃ l, ints H v = some l ∧ In64 l then some (.bool true) else none
  | _ => none
set_option maxHeartbeats 4000000 in
theorem snd11 : Sound Try.prog 11 (FSem.pure F11).run := by
  refine sound_of hT (EOK_cons snd31 (EOK_cons snd36 (EOK_cons snd37 (EOK_cons snd38 (EOK_cons snd39 (EOK_cons snd40 (EOK_cons snd41 (EOK_cons snd42 (EOK_cons snd23 (EOK_nil _)))))))))) mixed A11 Try.func11 hb11 (by kernel_rfl) (by kernel_rfl) (by kernel_rfl) (by kernel_rfl) sh11 2 (by kernel_rfl) rs11 hr11 ?_
  intro args H r H' hw h
  obtain ⟨rfl, hv⟩ := pureAt h
  clear h
  unfold F11 at hv
  split at hv
  rotate_left
  · cases hv
  rename_i v dd
  split at hv
  rotate_left
  · cases hv
  rename_i hex
  obtain ⟨l, hl, hr⟩ := hex
  cases hv
  have g := made_good hr
  obtain ⟨x, y, mv, pv, A1, e31, x1, ix, iy, im, ip, mx, my, mm', mp⟩ := made_rep (H := H') hw hr
  have e31' := F31_at hl hr
  rw [e31] at e31'
  generalize (mdS l).1 = S at *
  generalize (mdD l).1 = D at *
  generalize mdM l = m at *
  generalize (mdP l).1 = P at *
  clear e31
  refine ⟨rfl, go ?_⟩
  unfold c11
  simp only [argSl]
  refine goSeq (goReg (goOp rfl rfl (goNil (goSeqN ?_))))
  refine goSeq (goReg ?_)
  iterate 6 (apply goOp; (· (simp [e31']; try exact rfl)); (· exact rfl))
  refine goCell x1.wf (ints_one' ix) (ints_one' iy) (fun u => rfl) (fun u => rfl) fun b0 q0 A2 x2 a2 u1 u2 u3 => ?_
  iterate 2 (apply goOp; (· (simp; try exact rfl)); (· exact rfl))
  refine goNil (goSeqN (goSeq (goReg ?_)))
  have hz := sizeOf_le S
  have hdl := g.dl
  have h3 := g.s3
  have hpl := g.pl
  have hdv := g.dv
  have ht2 := tens_of (ints_ext x2.pre ix) (ints_ext x2.pre iy)
  have ix2 := ints_ext x2.pre ix
  have iy2 := ints_ext x2.pre iy
  have im2 := ints_ext x2.pre im
  have ip2 := ints_ext x2.pre ip
  obtain ⟨bl, vl, vs, A3, hal, x3, hvl, hvl', a3, hvs, hcell⟩ := all_rep2 (H := A2) x2.wf g.may (by omega)
  have e37 := F37_at ht2 im2 ip2
  obtain ⟨n, hn⟩ : ∃ n : Nat, (devs m).toNat = n := ⟨_, rfl⟩
  rw [hn] at hvs hcell hal
  rw [hal] at e37
  have l2 := ld40 a2
  iterate 9 (apply goOp; (· (simp [e37, l2]; try exact rfl)); (· exact rfl))
  refine goNil (goSeqN ?_)
  -- which device
  obtain ⟨k, hkk, hkn⟩ := which dd n (by omega) (by omega)
  have hkd : (k : Int) < devs m := by omega
  obtain ⟨xk, yk, hck, htk, hox, hoy⟩ := hcell k hkn
  rw [g.allLen.2 k hkd] at htk
  obtain ⟨_, _, hag, ixk, iyk⟩ := tens_some htk
  cases hag
  simp only at ixk iyk
  have a22 := Hide.mk a2
  have a23 := x3.pre.at a2
  have l22 := ld22 a23 0
  simp only [List.getElem?_cons_zero] at l22
  obtain ⟨fv, zv, A4, e4, x4, ifv, izv⟩ := tile_rep x3.wf S m P k
  have e40 := F40_at (ints_ext x3.pre ix2) (ints_ext x3.pre im2) (ints_ext x3.pre ip2) (k : Int)
  rw [e4] at e40
  have a4 := x4.pre.at a3
  obtain ⟨l4, l4'⟩ := ld22_at a4 hck
  have iyk4 := ints_ext x4.pre iyk
  have hny := alenS_ints iyk4
  simp only [← alen38] at hny
  have hidx : aidx T 45 (.sl bl vl 0 n 2 false) (.int .i64 k) = some (.ptr bl vl (k * 2)) := by
    rw [aidx45]; simp only [aidxS]; rw [if_pos ⟨trivial, by omega, by omega⟩]; simp
  have hln : alen T 45 (.sl bl vl 0 n 2 false) = some (.int .i64 n) := by rw [alen45]; rfl
  generalize hlv : AV.sl bl vl 0 n 2 false = lv at *
  obtain ⟨hpS, hpz, hpl'⟩ := g.part hkd
  have hnum := fun i => g.num (i := i) hkd
  have hzl := (g.sz7 hkd).2
  have hfr := (part_rng (g.ct hkd)).1
  have hdD : (D.length : Int) = sizeOf S := by have := sizeOf_nonneg S; omega
  have hts := fun h hl => g.turn_same (k := k) h hkd hl x
  have hto := fun h hl => g.turn_other (k := k) h hkd hl x
  have htl := g.turn_at hkd
  have hall := g.allLen
  have hS := g.shape
  generalize hSZ : sizeL S m P k = SZ at *
  generalize hFR : fromL S m P k = FR at *
  generalize hDT : partD (S, D) m P k = DT at *
  have hDT4 : DT.length ≤ 4096 := by have := sizeOf_le SZ; omega
  have hn1 : ¬ (n : Int) < 1 := by omega
  have hnd : (n : Int) = devs m := by omega
  have hn8 : n ≤ 8 := by omega
  replace hnd := Hide.mk hnd
  have hn0 : ¬ (n : Int) = 0 := by omega
  have hn0' : ¬ n = 0 := by omega
  have hw3 := x3.wf
  have hw4 := x4.wf
  replace hw := Hide.mk hw
  replace hw3 := Hide.mk hw3
  replace hw4 := Hide.mk hw4
  replace hnum := Hide.mk hnum
  replace hcell := Hide.mk hcell
  replace hts := Hide.mk hts
  replace hto := Hide.mk hto
  replace htl := Hide.mk htl
  replace hall := Hide.mk hall
  replace x1 := Hide.mk x1
  replace x2 := Hide.mk x2
  replace x3 := Hide.mk x3
  replace x4 := Hide.mk x4
  replace ix2 := Hide.mk ix2
  replace iy2 := Hide.mk iy2
  replace im2 := Hide.mk im2
  replace ip2 := Hide.mk ip2
  replace ht2 := Hide.mk ht2
  replace ifv := Hide.mk ifv
  replace izv := Hide.mk izv
  replace iyk4 := Hide.mk iyk4
  replace ixk := Hide.mk ixk
  replace iyk := Hide.mk iyk
  replace htk := Hide.mk htk
  replace a23 := Hide.mk a23
  replace a3 := Hide.mk a3
  replace a4 := Hide.mk a4
  replace hlv := Hide.mk hlv
  replace hck := Hide.mk hck
  replace hvs := Hide.mk hvs
  replace hS := Hide.mk hS
  replace hpS := Hide.mk hpS
  replace hpl' := Hide.mk hpl'
  replace mx := Hide.mk mx
  clear u1 u2 u3 my mm' mp hl hr e31' g ix iy im ip a2 l2 e37 hal e4 hdl hz hpz hSZ hFR hDT hn
  repeat' (first | apply goSeq | apply goReg | apply goSeqN | apply goSeqR | apply goSkip | apply goRet | apply goNil | apply goBlock | apply goExit | apply goBlkN | apply goBlkR | apply goBlkE | apply goSeqE | apply goLoopR | apply goLoopE | (apply goOp; (· (simp [*]; try exact rfl)); (· exact rfl)) | (apply goOp0; (· (simp [*]; try exact rfl)); (· exact rfl)) | (apply goYes; (· (simp [*]; done)); (· (simp [*]; try exact rfl)); (· exact rfl)) | (apply goNo; (· (simp [*]; done))) | (apply goNoU; (· (simp; exact rfl))) | (apply goIfT; (· (simp [*]; done))) | (apply goIfF; (· (simp [*]; done))) | (apply goIf; (· (simp; exact rfl)); (· with_reducible exact rfl)) | (apply goSplit; (· (simp; exact rfl)); (· with_reducible exact rfl)) | (apply goIfQ; (· (simp; exact rfl)); (· exact rfl)) | (apply goSplitQ; (· (simp; exact rfl)); (· exact rfl)) | (apply goBlkX; (· rfl)) | intro _)
  clear e40 l4 l4' hkk hn1 hn0 hn0'
  -- the numbers of the part
  refine goLoop (fun mm s1 G => ∃ i : Nat, mm = DT.length - i ∧ i ≤ DT.length ∧ get s1 5 = .ptr b0 q0 0 ∧ get s1 6 = mv ∧ get s1 7 = pv ∧ get s1 8 = lv ∧ get s1 10 = .int .i64 k ∧ get s1 11 = fv ∧ get s1 12 = zv ∧ get s1 62 = .int .i64 DT.length ∧ get s1 63 = .int .i64 i ∧ Ext A4 G) DT.length ?_ ?_
  · exact ⟨0, rfl, Nat.zero_le _, rfl, rfl, rfl, rfl, rfl, rfl, rfl, rfl, rfl, Ext.refl hw4.out⟩
  rintro mm s1 G ⟨i, hmm, hi, g1, g2, g3, g4, g5, g6, g7, g8, g9, hx⟩
  simp only [cut_cons, cut_nil, g1, g2, g3, g4, g5, g6, g7, g8, g9]
  clear g1 g2 g3 g4 g5 g6 g7 g8 g9
  have hi0 : (0 : Int) ≤ i := Int.natCast_nonneg i
  have hwi : w ((i : Int) + 1) = ((i + 1 : Nat) : Int) := w_id (by omega)
  have hxA := x4.out.trans hx
  have aG := hx.pre.at a4.out
  obtain ⟨l4, l4'⟩ := ld22_at aG hck.out
  by_cases hiD : i < DT.length
  · have hiD' : (i : Int) < DT.length := by omega
    obtain ⟨n0, n1, n2⟩ := hnum.out i hiD
    have izG := ints_ext hx.pre izv.out
    have e41 : F95 [zv, .int .i64 i] G = some (mkF G (meshAt SZ i)) := by
      simp only [F95, izG, Option.map_some]
      rw [if_neg (by have := hpl'.out; omega)]
    have xm := mkF_ext hx.wf (meshAt SZ i)
    have hml : (meshAt SZ i).length = S.length := by rw [meshAt_len, hzl]
    generalize hP : meshAt SZ i = PL at *
    have hmk : (mkF G PL).1 = .sl G.bs.length G.c 0 S.length 1 true := by simp [mkF, hml]
    have rp : Rep G.c (mkF G PL).2 (trF PL) (mkF G PL).1 [(G.bs.length, G.c)] := rep_F.2 ⟨_, _, rfl, Nat.le_refl _, new_at _ _, rfl⟩
    generalize hr5 : mkF G PL = r5 at *
    obtain ⟨pl, G1⟩ := r5
    simp only at xm hmk rp
    have hlp : alen T 22 pl = some (.int .i64 S.length) := by rw [alen22, hmk]; rfl
    have hx1 := hx.trans xm
    have hGc := hx.c
    generalize hpb : G.bs.length = pb at *
    generalize hpv : G.c = pw at *
    replace hx := Hide.mk hx
    replace hxA := Hide.mk hxA
    replace hx1 := Hide.mk hx1
    replace xm := Hide.mk xm
    replace rp := Hide.mk rp
    replace aG := Hide.mk aG
    have hmkh := Hide.mk hmk
    replace n0 := Hide.mk n0
    replace n1 := Hide.mk n1
    replace n2 := Hide.mk n2
    clear izG hmk
    repeat' (first | apply goSeq | apply goReg | apply goSeqN | apply goSeqR | apply goSkip | apply goRet | apply goNil | apply goBlock | apply goExit | apply goBlkN | apply goBlkR | apply goBlkE | apply goSeqE | apply goLoopR | apply goLoopE | (apply goOp; (· (simp [*]; try exact rfl)); (· exact rfl)) | (apply goOp0; (· (simp [*]; try exact rfl)); (· exact rfl)) | (apply goYes; (· (simp [*]; done)); (· (simp [*]; try exact rfl)); (· exact rfl)) | (apply goNo; (· (simp [*]; done))) | (apply goNoU; (· (simp; exact rfl))) | (apply goIfT; (· (simp [*]; done))) | (apply goIfF; (· (simp [*]; done))) | (apply goIf; (· (simp; exact rfl)); (· with_reducible exact rfl)) | (apply goSplit; (· (simp; exact rfl)); (· with_reducible exact rfl)) | (apply goIfQ; (· (simp; exact rfl)); (· exact rfl)) | (apply goSplitQ; (· (simp; exact rfl)); (· exact rfl)) | (apply goBlkX; (· rfl)) | intro _)
    clear e41 hlp hr5
    refine goLoop (fun mm2 s2 Q => ∃ j : Nat, mm2 = S.length - j ∧ j ≤ S.length ∧ get s2 5 = .ptr b0 q0 0 ∧ get s2 6 = mv ∧ get s2 7 = pv ∧ get s2 8 = lv ∧ get s2 10 = .int .i64 k ∧ get s2 11 = fv ∧ get s2 12 = zv ∧ get s2 13 = .int .i64 i ∧ get s2 14 = pl ∧ get s2 62 = .int .i64 DT.length ∧ get s2 63 = .int .i64 i ∧ get s2 70 = .int .i64 S.length ∧ get s2 71 = .int .i64 j ∧ Ext A4 Q ∧ Rep pw Q (trF (addL (PL.take j) (FR.take j) ++ PL.drop j)) pl [(pb, pw)]) S.length ?_ ?_
    · exact ⟨0, rfl, Nat.zero_le _, rfl, rfl, rfl, rfl, rfl, rfl, rfl, rfl, rfl, rfl, rfl, rfl, rfl, hx1.out, by simpa [addL] using rp.out⟩
    clear rp hx1 xm
    rintro mm2 s2 Q ⟨j, hmm2, hj, g1, g2, g3, g4, g5, g6, g7, g8, g9, g10, g11, g12, g13, hxQ, rp⟩
    simp only [cut_cons, cut_nil, g1, g2, g3, g4, g5, g6, g7, g8, g9, g10, g11, g12, g13]
    clear g1 g2 g3 g4 g5 g6 g7 g8 g9 g10 g11 g12 g13
    have hj0 : (0 : Int) ≤ j := Int.natCast_nonneg j
    have hwj : w ((j : Int) + 1) = ((j + 1 : Nat) : Int) := w_id (by omega)
    by_cases hjS : j < S.length
    · have hjS' : (j : Int) < S.length := by omega
      have hcl : (addL (PL.take j) (FR.take j) ++ PL.drop j).length = S.length := by simp [addL_len]; omega
      have hpi := isL.ints (.inr (.inl rfl)) (by omega) rp
      have hfi := ints_ext hxQ.pre ifv.out
      have hixp : aidx T 22 pl (.int .i64 j) = some (pAt pl j) := by
        rw [aidx22, aidxS_ints hpi .i64 j, if_pos (by omega)]
      have hldp : aload T 3 (pAt pl j) Q = some (.int .i64 (nth PL j)) := by
        rw [aload_nth T3 rfl hpi j hj0 (by omega), nth_addL PL FR j (by omega)]
      have hixf : aidx T 22 fv (.int .i64 j) = some (pAt fv j) := by
        rw [aidx22, aidxS_ints hfi .i64 j, if_pos (by omega)]
      have hldf : aload T 3 (pAt fv j) Q = some (.int .i64 (nth FR j)) := aload_nth T3 rfl hfi j hj0 (by omega)
      rw [← trF_B] at rp
      obtain ⟨Q2, e3, rp2, k3, x5, c5⟩ := rep_store (.inl rfl) rp j (by omega) (w (nth PL j + nth FR j))
      rw [addL_take PL FR j (by omega) (by omega), trF_B] at rp2
      have hxQ2 := x5 A4 hw4.out hxQ hGc
      replace hxQ2 := Hide.mk hxQ2
      replace rp2 := Hide.mk rp2
      clear rp hpi hfi k3 x5 c5 hxQ hcl
      repeat' (first | apply goSeq | apply goReg | apply goSeqN | apply goSeqR | apply goSkip | apply goRet | apply goNil | apply goBlock | apply goExit | apply goBlkN | apply goBlkR | apply goBlkE | apply goSeqE | apply goLoopR | apply goLoopE | (apply goOp; (· (simp [*]; try exact rfl)); (· exact rfl)) | (apply goOp0; (· (simp [*]; try exact rfl)); (· exact rfl)) | (apply goYes; (· (simp [*]; done)); (· (simp [*]; try exact rfl)); (· exact rfl)) | (apply goNo; (· (simp [*]; done))) | (apply goNoU; (· (simp; exact rfl))) | (apply goIfT; (· (simp [*]; done))) | (apply goIfF; (· (simp [*]; done))) | (apply goIf; (· (simp; exact rfl)); (· with_reducible exact rfl)) | (apply goSplit; (· (simp; exact rfl)); (· with_reducible exact rfl)) | (apply goIfQ; (· (simp; exact rfl)); (· exact rfl)) | (apply goSplitQ; (· (simp; exact rfl)); (· exact rfl)) | (apply goBlkX; (· rfl)) | intro _)
      exact goLoopN (S.length - (j + 1)) (by omega) ⟨j + 1, rfl, by omega, rfl, rfl, rfl, rfl, rfl, rfl, rfl, rfl, rfl, rfl, rfl, rfl, rfl, hxQ2.out, rp2.out⟩
    · have hjE : j = S.length := by omega
      subst hjE
      have hjS' : ¬ ((S.length : Int) < S.length) := by omega
      have hall2 : addL (PL.take S.length) (FR.take S.length) ++ PL.drop S.length = addL PL FR := by
        rw [List.take_of_length_le (by omega), List.take_of_length_le (by omega), List.drop_of_length_le (by omega), List.append_nil]
      rw [hall2] at rp
      have hpi := isL.ints (.inr (.inl rfl)) (by rw [addL_len]; omega) rp
      have hxA2 := x4.out.trans hxQ
      have hx2Q := x3.out.trans hxA2
      have ixQ := ints_ext hx2Q.pre ix2.out
      have iyQ := ints_ext hx2Q.pre iy2.out
      have iykQ := ints_ext hxQ.pre iyk4.out
      have aQ := hxQ.pre.at a4.out
      obtain ⟨l4, l4'⟩ := ld22_at aQ hck.out
      have aQ5 := hxA2.pre.at a23.out
      have l5 := ld22 aQ5 0
      have l5' := ld38 aQ5 1
      simp only [List.getElem?_cons_zero, List.getElem?_cons_succ] at l5 l5'
      obtain ⟨ix, hixe⟩ : ∃ ix : Nat, idxL S (addL PL FR) = ix := ⟨(idxL S (addL PL FR)).toNat, by have := n0.out; omega⟩
      have n1' := n1.out
      have n2' := n2.out
      rw [hixe] at n1' n2'
      have e42 : F96 [x, pl] Q = some (.int .i64 ix) := by
        simp only [F96, ixQ, hpi, Option.bind_some, Option.map_some, hixe]
      have hixy : aidx T 38 y (.int .i64 ix) = some (pAt y ix) := by
        rw [aidx38, aidxS_ints iyQ .i64 ix, if_pos (by omega)]
      have hldy : aload T 2 (pAt y ix) Q = some (.int .i64 (nth D ix)) := aload_nth T2 rfl iyQ ix (by omega) (by omega)
      have hixk : aidx T 38 yk (.int .i64 i) = some (pAt yk i) := by
        rw [aidx38, aidxS_ints iykQ .i64 i, if_pos (by omega)]
      have hldk : aload T 2 (pAt yk i) Q = some (.int .i64 (nth D ix)) := by
        rw [← n2']; exact aload_nth T2 rfl iykQ i (by omega) (by omega)
      replace hxQ := Hide.mk hxQ
      clear rp hpi hxA2 hx2Q ixQ iyQ iykQ aQ aQ5 n1' n2' hall2 hjS
      replace hixe := Hide.mk hixe
      repeat' (first | apply goSeq | apply goReg | apply goSeqN | apply goSeqR | apply goSkip | apply goRet | apply goNil | apply goBlock | apply goExit | apply goBlkN | apply goBlkR | apply goBlkE | apply goSeqE | apply goLoopR | apply goLoopE | (apply goOp; (· (simp [*]; try exact rfl)); (· exact rfl)) | (apply goOp0; (· (simp [*]; try exact rfl)); (· exact rfl)) | (apply goYes; (· (simp [*]; done)); (· (simp [*]; try exact rfl)); (· exact rfl)) | (apply goNo; (· (simp [*]; done))) | (apply goNoU; (· (simp; exact rfl))) | (apply goIfT; (· (simp [*]; done))) | (apply goIfF; (· (simp [*]; done))) | (apply goIf; (· (simp; exact rfl)); (· with_reducible exact rfl)) | (apply goSplit; (· (simp; exact rfl)); (· with_reducible exact rfl)) | (apply goIfQ; (· (simp; exact rfl)); (· exact rfl)) | (apply goSplitQ; (· (simp; exact rfl)); (· exact rfl)) | (apply goBlkX; (· rfl)) | intro _)
      exact goLoopN (DT.length - (i + 1)) (by omega) ⟨i + 1, rfl, by omega, rfl, rfl, rfl, rfl, rfl, rfl, rfl, rfl, rfl, hxQ.out⟩
  · have hiE : i = DT.length := by omega
    subst hiE
    have hiD' : ¬ ((DT.length : Int) < DT.length) := by omega
    have hPre := (((x1.out.pre.trans x2.out.pre).trans x3.out.pre).trans x4.out.pre).trans hx.pre
    replace hPre := Hide.mk hPre
    have f36 : ∀ G, F36 [] G = some (.bool true) := fun G => rfl
    by_cases h0 : DT.length = 0
    · replace hx := Hide.mk hx
      replace hxA := Hide.mk hxA
      replace aG := Hide.mk aG
      have h0' : (DT.length : Int) = 0 := by omega
      repeat' (first | apply goSeq | apply goReg | apply goSeqN | apply goSeqR | apply goSkip | apply goRet | apply goNil | apply goBlock | apply goExit | apply goBlkN | apply goBlkR | apply goBlkE | apply goSeqE | apply goLoopR | apply goLoopE | (apply goOp; (· (simp [*]; try exact rfl)); (· exact rfl)) | (apply goOp0; (· (simp [*]; try exact rfl)); (· exact rfl)) | (apply goYes; (· (simp [*]; done)); (· (simp [*]; try exact rfl)); (· exact rfl)) | (apply goNo; (· (simp [*]; done))) | (apply goNoU; (· (simp; exact rfl))) | (apply goIfT; (· (simp [*]; done))) | (apply goIfF; (· (simp [*]; done))) | (apply goIf; (· (simp; exact rfl)); (· with_reducible exact rfl)) | (apply goSplit; (· (simp; exact rfl)); (· with_reducible exact rfl)) | (apply goIfQ; (· (simp; exact rfl)); (· exact rfl)) | (apply goSplitQ; (· (simp; exact rfl)); (· exact rfl)) | (apply goBlkX; (· rfl)) | intro _)
      exact goEnd hw.out hPre.out (by simp) (by simp [rs11]; exact rfl) rfl rfl
    · have h0' : ¬ (DT.length : Int) = 0 := by omega
      replace hx := Hide.mk hx
      replace hxA := Hide.mk hxA
      replace aG := Hide.mk aG
      repeat' (first | apply goSeq | apply goReg | apply goSeqN | apply goSeqR | apply goSkip | apply goRet | apply goNil | apply goBlock | apply goExit | apply goBlkN | apply goBlkR | apply goBlkE | apply goSeqE | apply goLoopR | apply goLoopE | (apply goOp; (· (simp [*]; try exact rfl)); (· exact rfl)) | (apply goOp0; (· (simp [*]; try exact rfl)); (· exact rfl)) | (apply goYes; (· (simp [*]; done)); (· (simp [*]; try exact rfl)); (· exact rfl)) | (apply goNo; (· (simp [*]; done))) | (apply goNoU; (· (simp; exact rfl))) | (apply goIfT; (· (simp [*]; done))) | (apply goIfF; (· (simp [*]; done))) | (apply goIf; (· (simp; exact rfl)); (· with_reducible exact rfl)) | (apply goSplit; (· (simp; exact rfl)); (· with_reducible exact rfl)) | (apply goIfQ; (· (simp; exact rfl)); (· exact rfl)) | (apply goSplitQ; (· (simp; exact rfl)); (· exact rfl)) | (apply goBlkX; (· rfl)) | intro _)
      have hxo := hx.out
      have aGo := aG.out
      have hwG := hxo.wf
      have hvG : vl < G.c := by have := x4.out.c; have := hxo.c; omega
      have iykG := ints_ext hxo.pre iyk4.out
      obtain ⟨y', G1, bs', e126, ry, fy, xG⟩ := clone_own (H0 := G) (Ext.refl hwG) iykG (by omega)
      rw [← aapp38] at e126
      have hne : DT ≠ [] := by intro e; rw [e] at h0; simp at h0
      have ry' : Rep G.c G1 (trS DT) y' bs' := by unfold trC at ry; rwa [if_neg hne] at ry
      have hxk1 := ints_one' ixk.out
      have hy1 := repI_one (.inl (.inl rfl)) ry'
      have hbld := bld40_one hxk1 hy1
      obtain ⟨m1, m1'⟩ := ld22_at (at_new aGo []) hck.out
      have aG1 := xG.pre.at aGo
      obtain ⟨m2, m2'⟩ := ld22_at aG1 hck.out
      have hkv : k * 2 + 2 ≤ vs.length := by have := hvs.out; omega
      have st := st40_at aG1 hkv hxk1 hy1
      have hnb : ∀ p ∈ bs', p ≠ (bl, vl) := fun p hp e => by have := (fy.2 p hp).1; rw [e] at this; simp only at this; omega
      have ry2 : Rep G.c (G1.put bl ⟨vl, (vs.set (k * 2) xk).set (k * 2 + 1) y', true, true⟩) (trS DT) y' bs' := Rep.keep _ (fun p hp => Keeps.put2 aG1 (hnb p hp)) ry'
      have a2G := at_put_same (k' := ⟨vl, (vs.set (k * 2) xk).set (k * 2 + 1) y', true, true⟩) aG1 rfl
      have xA2 : Ext A2 (G1.put bl ⟨vl, (vs.set (k * 2) xk).set (k * 2 + 1) y', true, true⟩) := put_ext x2.out.wf (((x3.out.trans x4.out).trans hxo).trans xG) hvl aG1
      have kp2 : ∀ b1 v1, b1 ≠ bl → Keeps G1 (G1.put bl ⟨vl, (vs.set (k * 2) xk).set (k * 2 + 1) y', true, true⟩) b1 v1 := fun b1 v1 hb => Keeps.put2 aG1 (fun e => hb (congrArg Prod.fst e))
      generalize hG2 : G1.put bl ⟨vl, (vs.set (k * 2) xk).set (k * 2 + 1) y', true, true⟩ = G2 at *
      have hcell2 : ∀ j : Nat, (((vs.set (k * 2) xk).set (k * 2 + 1) y').drop (j * 2)).take 2 = if j = k then [xk, y'] else (vs.drop (j * 2)).take 2 := fun j => set2_at vs k j xk y' hkv
      have hv2l : ((vs.set (k * 2) xk).set (k * 2 + 1) y').length = n * 2 := by simp; exact hvs.out
      generalize (vs.set (k * 2) xk).set (k * 2 + 1) y' = vs2 at *
      obtain ⟨m3, m3'⟩ := ld22_at a2G ((hcell2 k).trans (if_pos rfl))
      have iy2' := isL.ints (.inl rfl) (by omega) ry2
      have hix0 : aidx T 38 y' (.int .i64 0) = some (pAt y' 0) := by
        rw [aidx38, aidxS_ints iy2' .i64 0, if_pos (by omega)]
      have hld0 : aload T 2 (pAt y' 0) G2 = some (.int .i64 (nth DT 0)) := aload_nth T2 rfl iy2' 0 (by omega) (by omega)
      rw [← trS_B] at ry2
      obtain ⟨G3, e3, ry3, k3, x5, c5⟩ := rep_store (.inr rfl) ry2 0 (by omega) (w (nth DT 0 + 1))
      have e3' : astore T 2 (pAt y' 0) (.int .i64 (w (nth DT 0 + 1))) G2 = some G3 := e3
      have hcA : A2.c ≤ G.c := by have := x3.out.c; have := x4.out.c; have := hxo.c; omega
      have xA3 := x5 A2 x2.out.wf xA2 hcA
      rw [trS_B] at ry3
      have iy3 := isL.ints (.inl rfl) (by simp; omega) ry3
      have kA : ∀ b1 v1, b1 ≠ bl → v1 < A3.c → Keeps A3 G3 b1 v1 := fun b1 v1 hb hv => by
        refine ((Keeps.pre ((x4.out.trans hxo).trans xG).pre b1 v1).trans (kp2 b1 v1 hb)).trans (k3 b1 v1 fun hm => ?_)
        have q1 : G.c ≤ v1 := (fy.2 _ hm).1
        have := x4.out.c
        have := hxo.c
        omega
      have a3G := k3 bl vl (fun hm => hnb _ hm rfl) _ a2G
      have hL : tensL G3 lv = some (turn (allL (S, D) m P) k) := by
        rw [← hlv.out]
        simp only [tensL, a3G, Option.bind_some]
        rw [if_pos ⟨trivial, by omega⟩, if_pos (by omega)]
        have hcs : (List.take (n * 2) (List.drop 0 vs2)) = vs2 := by rw [List.drop_zero, List.take_of_length_le (by omega)]
        rw [hcs]
        have hnd' := hnd.out
        have hlen : (turn (allL (S, D) m P) k).length = n := by rw [turn_len, hall.out.1]; omega
        refine tensG_mk _ _ (by omega) fun j hj => ?_
        rw [hlen] at hj
        have hjd : (j : Int) < devs m := by omega
        rw [hcell2 j, htl.out j hjd]
        by_cases hjk : j = k
        · subst hjk
          rw [if_pos rfl, if_pos rfl]
          exact ⟨xk, y', rfl, tens_of (ints_keep hw3.out kA hox ixk.out) iy3⟩
        · rw [if_neg hjk, if_neg hjk]
          obtain ⟨xj, yj, q1, q2, q3, q4⟩ := hcell.out j hj
          rw [hall.out.2 j hjd] at q2
          exact ⟨xj, yj, q1, tens_keep hw3.out kA q3 q4 q2⟩
      have ix3 := ints_ext xA3.pre ix2.out
      have im3 := ints_ext xA3.pre im2.out
      have ip3 := ints_ext xA3.pre ip2.out
      have ht3 := tens_ext xA3.pre ht2.out
      have e38 := F38_at hL ix3 im3 ip3 mx.out (by omega)
      have aA3 := x3.out.pre
      have a5 := xA3.pre
      have hcell5 : aload T 22 (.ptr b0 q0 0) G3 = some x ∧ aload T 40 (.ptr b0 q0 0) G3 = some (.agg [x, y]) := by
        have := a5.at a22.out
        exact ⟨by have h := ld22 this 0; simpa using h, ld40 this⟩
      obtain ⟨l6, l6'⟩ := hcell5
      have hPre3 : Pre H' G3 := (x1.out.pre.trans x2.out.pre).trans xA3.pre
      have hw3G := xA3.wf
      have hbs0 := @xdo_bs38_0
      clear ry ry' ry2 ry3 fy hnb xA2 kp2 hcell2 hv2l iy2' iy3 x5 c5 k3 kA a3G hL e3 a2G aG1 hG2 hne hwG iykG aGo aA3 a5 hcA
      replace xA3 := Hide.mk xA3
      replace hPre3 := Hide.mk hPre3
      replace hw3G := Hide.mk hw3G
      replace ht3 := Hide.mk ht3
      replace ix3 := Hide.mk ix3
      replace hxo := Hide.mk hxo
      have hPl : P.length < 1099511627776 := by omega
      generalize hGn : G.new [] = Gn at *
      apply goDrw
      iterate 16 (apply goTOp; (· (simp [*]; try exact rfl)); (· exact rfl))
      apply goTOp0; (· (simp [*]; try exact rfl)); (· exact rfl)
      refine goTNil (by simp [again, XG_none, get, l4, l4', m1, m1', m2, m2']) ?_
      clear l4 l4' m1 m1' m2 m2' e126 hbld st hGn hbs0
      refine goSeqN (goSeq (goReg ?_))
      iterate 9 (apply goOp; (· (simp [*]; try exact rfl)); (· exact rfl))
      apply goOp0; (· (simp [*]; try exact rfl)); (· exact rfl)
      refine goNil (goSeqN (goSeq (goReg ?_)))
      clear m3 m3' hix0 hld0 e3'
      by_cases hc : 1 < rCopies m P
      · rw [hts.out hc (by omega), mk_zero] at e38
        iterate 9 (apply goOp; (· (simp [*]; try exact rfl)); (· exact rfl))
        refine goCell hw3G.out rfl rfl (fun u => rfl) (fun u => rfl) fun b5 q5 A5 x5 a5 u1 u2 u3 => ?_
        have im5 := ints_ext x5.pre im3
        have ip5 := ints_ext x5.pre ip3
        have l7 := ld38 a5 1
        simp only [List.getElem?_cons_zero, List.getElem?_cons_succ] at l7
        have hln0 : alen T 38 .nilS = some (.int .i64 0) := by rw [alen38]; rfl
        have hPre5 := hPre3.out.trans x5.pre
        replace hPre5 := Hide.mk hPre5
        clear u1 u2 u3 x5 a5 im3 ip3 e38 l6 l6' l22 hpl h3
        repeat' (first | apply goSeq | apply goReg | apply goSeqN | apply goSeqR | apply goSkip | apply goRet | apply goNil | apply goBlock | apply goExit | apply goBlkN | apply goBlkR | apply goBlkE | apply goSeqE | apply goLoopR | apply goLoopE | (apply goOp; (· (simp [*]; try exact rfl)); (· exact rfl)) | (apply goOp0; (· (simp [*]; try exact rfl)); (· exact rfl)) | (apply goYes; (· (simp [*]; done)); (· (simp [*]; try exact rfl)); (· exact rfl)) | (apply goNo; (· (simp [*]; done))) | (apply goNoU; (· (simp; exact rfl))) | (apply goIfT; (· (simp [*]; done))) | (apply goIfF; (· (simp [*]; done))) | (apply goIf; (· (simp; exact rfl)); (· with_reducible exact rfl)) | (apply goSplit; (· (simp; exact rfl)); (· with_reducible exact rfl)) | (apply goIfQ; (· (simp; exact rfl)); (· exact rfl)) | (apply goSplitQ; (· (simp; exact rfl)); (· exact rfl)) | (apply goBlkX; (· rfl)) | intro _)
        exact goEnd hw.out hPre5.out (by simp) (by simp [rs11]; exact rfl) rfl rfl
      · obtain ⟨D', hj, hD4, hsm⟩ := hto.out hc (by omega)
        rw [hj] at e38
        obtain ⟨jx, jy, A6, e6, x6, ht6⟩ := join_rep (D := D') hw3G.out ix3.out (by omega) (by omega)
        rw [e6] at e38
        iterate 9 (apply goOp; (· (simp [*]; try exact rfl)); (· exact rfl))
        obtain ⟨_, _, hag, ijx, ijy⟩ := tens_some ht6
        cases hag
        refine goCell x6.wf (ints_one' ijx) (ints_one' ijy) (fun u => rfl) (fun u => rfl) fun b5 q5 A5 x5 a5 u1 u2 u3 => ?_
        have im5 := ints_ext (x6.pre.trans x5.pre) im3
        have ip5 := ints_ext (x6.pre.trans x5.pre) ip3
        have l7 := ld40 a5
        have l8 := aload_ext (x6.pre.trans x5.pre) l6'
        have ht7 := tens_ext x5.pre ht6
        have ht8 := tens_ext (x6.pre.trans x5.pre) ht3.out
        have hPre5 := hPre3.out.trans (x6.pre.trans x5.pre)
        replace hPre5 := Hide.mk hPre5
        clear u1 u2 u3 x5 x6 a5 im3 ip3 e38 l6 l6' l22 e6 ht6 ijx ijy hj hpl h3
        repeat' (first | apply goSeq | apply goReg | apply goSeqN | apply goSeqR | apply goSkip | apply goRet | apply goNil | apply goBlock | apply goExit | apply goBlkN | apply goBlkR | apply goBlkE | apply goSeqE | apply goLoopR | apply goLoopE | (apply goOp; (· (simp [*]; try exact rfl)); (· exact rfl)) | (apply goOp0; (· (simp [*]; try exact rfl)); (· exact rfl)) | (apply goYes; (· (simp [*]; done)); (· (simp [*]; try exact rfl)); (· exact rfl)) | (apply goNo; (· (simp [*]; done))) | (apply goNoU; (· (simp; exact rfl))) | (apply goIfT; (· (simp [*]; done))) | (apply goIfF; (· (simp [*]; done))) | (apply goIf; (· (simp; exact rfl)); (· with_reducible exact rfl)) | (apply goSplit; (· (simp; exact rfl)); (· with_reducible exact rfl)) | (apply goIfQ; (· (simp; exact rfl)); (· exact rfl)) | (apply goSplitQ; (· (simp; exact rfl)); (· exact rfl)) | (apply goBlkX; (· rfl)) | intro _)
        exact goEnd hw.out hPre5.out (by simp) (by simp [rs11]; exact rfl) rfl rfl
end Go.Proofs.Ytokadkakmhfdeaa.Pq
