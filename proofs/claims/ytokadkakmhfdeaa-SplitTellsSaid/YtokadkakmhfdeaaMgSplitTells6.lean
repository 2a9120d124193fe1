/- What the proof of a statement of this seat rests on, part 6: PqWW, PqWX, PqC5b, PqWFb, PqCB, PqX8, PqX9, PqWZ, PqCC, PqSl, PqZr. -/
import Derived.Test.YtokadkakmhfdeaaMgSplitTells5
set_option linter.unusedVariables false
set_option linter.unusedSimpArgs false
set_option linter.unusedSectionVars false
namespace Go.Proofs.Ytokadkakmhfdeaa.Pq
open Go.RowKit
/- Walks: a tensor, a mesh and a spec of a tape. -/
theorem Fresh.perm {c d : Nat} {a b : List (Nat × Nat)} (h : Fresh c d a) (p : a.Perm b) : Fresh c d b := ⟨p.nodup_iff.1 h.1, fun q hq => h.2 q (p.mem_iff.2 hq)⟩
def seven : List (List Int) := [[2], [2, 4], [3, 2], [2, 2, 2], [], [5], [2, 2]]
theorem litH_rep : ∀ (L : List (List Int)) {H : Hp}, Wf H → ∀ k : Nat, k < L.length → ∃ m b ver, (litH H L).1[k]? = some (.sl b ver 0 m.length 1 true) ∧ L[k]? = some m ∧ (litH H L).2.at b ver = some ⟨ver, m.map (.int .i64), true, true⟩ ∧ H.bs.length ≤ b ∧ H.c ≤ ver ∧ ver < (litH H L).2.c := by
  intro L
  induction L with
  | nil => intro H _ k hk; simp at hk
  | cons l L ih =>
    intro H hw k hk
    cases k with
    | zero =>
      refine ⟨l, _, _, rfl, rfl, (litH_ext L (hw.new _)).pre.at (new_at _ _), Nat.le_refl _, Nat.le_refl _, ?_⟩
      have := (litH_ext L (hw.new (l.map (.int .i64)))).c
      rw [new_c] at this
      show H.c < (litH _ L).2.c
      omega
    | succ k =>
      obtain ⟨m, b, ver, h1, h2, h3, h4, h5, h6⟩ := ih (hw.new (l.map (.int .i64))) k (by simpa using hk)
      rw [new_len] at h4
      rw [new_c] at h5
      exact ⟨m, b, ver, by simpa [litH] using h1, by simpa using h2, h3, by omega, by omega, h6⟩
theorem xdo_bs26_g7 {E : Env} {sh : Bool} {s : Sl} {H : Hp} (x0 x1 x2 x3 x4 x5 x6 : Operand) {v0 v1 v2 v3 v4 v5 v6 : AV} (h0 : ev s x0 = v0) (h1 : ev s x1 = v1) (h2 : ev s x2 = v2) (h3 : ev s x3 = v3) (h4 : ev s x4 = v4) (h5 : ev s x5 = v5) (h6 : ev s x6 = v6)
    (g : [v0, v1, v2, v3, v4, v5, v6].all (fun v => match v with | .sl .. => true | _ => false) = true) :
    xdo E T sh (.buildSlice 26 7 #[(0, x0), (1, x1), (2, x2), (3, x3), (4, x4), (5, x5), (6, x6)]) s H = some (.sl H.bs.length H.c 0 7 1 true, H.new [v0, v1, v2, v3, v4, v5, v6]) := by
  simp only [List.all_cons, List.all_nil, Bool.and_true, Bool.and_eq_true] at g
  obtain ⟨g0, g1, g2, g3, g4, g5, g6⟩ := g
  cases v0 <;> first | cases g0 | skip
  cases v1 <;> first | cases g1 | skip
  cases v2 <;> first | cases g2 | skip
  cases v3 <;> first | cases g3 | skip
  cases v4 <;> first | cases g4 | skip
  cases v5 <;> first | cases g5 | skip
  cases v6 <;> first | cases g6 | skip
  simp [xdo, aop, D26, T22, rep, afill, setAll, AV.cells, AV.one, h0, h1, h2, h3, h4, h5, h6]
theorem goLits7 {E : Env} {s : Sl} {H : Hp} {k : Ct} {l : List Co}
    (h : ∀ (v0 v1 v2 v3 v4 v5 v6 : AV) (HL : Hp), litH H seven = ([v0, v1, v2, v3, v4, v5, v6], HL) →
      YL E T false l ((18, .sl HL.bs.length HL.c 0 7 1 true) :: (17, v6) :: (16, v5) :: (15, v4) :: (14, v3) :: (13, v2) :: (12, v1) :: (11, v0) :: s) (HL.new [v0, v1, v2, v3, v4, v5, v6]) k) :
    YL E T false (⟨some 11, (Op.buildSlice 22 1 #[(0, (Operand.const (Value.int IntKind.i64 2)))]), none⟩ ::
    ⟨some 12, (Op.buildSlice 22 2 #[(0, (Operand.const (Value.int IntKind.i64 2))), (1, (Operand.const (Value.int IntKind.i64 4)))]), none⟩ ::
    ⟨some 13, (Op.buildSlice 22 2 #[(0, (Operand.const (Value.int IntKind.i64 3))), (1, (Operand.const (Value.int IntKind.i64 2)))]), none⟩ ::
    ⟨some 14, (Op.buildSlice 22 3 #[(0, (Operand.const (Value.int IntKind.i64 2))), (1, (Operand.const (Value.int IntKind.i64 2))), (2, (Operand.const (Value.int IntKind.i64 2)))]), none⟩ ::
    ⟨some 15, (Op.buildSlice 22 0 #[]), none⟩ ::
    ⟨some 16, (Op.buildSlice 22 1 #[(0, (Operand.const (Value.int IntKind.i64 5)))]), none⟩ ::
    ⟨some 17, (Op.buildSlice 22 2 #[(0, (Operand.const (Value.int IntKind.i64 2))), (1, (Operand.const (Value.int IntKind.i64 2)))]), none⟩ ::
    ⟨some 18, (Op.buildSlice 26 7 #[(0, (Operand.tmp 11)), (1, (Operand.tmp 12)), (2, (Operand.tmp 13)), (3, (Operand.tmp 14)), (4, (Operand.tmp 15)), (5, (Operand.tmp 16)), (6, (Operand.tmp 17))]), none⟩ :: l) s H k := by
  refine goOp (xdo_bs22_1 2) rfl ?_
  refine goOp (xdo_bs22_2 2 4) rfl ?_
  refine goOp (xdo_bs22_2 3 2) rfl ?_
  refine goOp (xdo_bs22_3 2 2 2) rfl ?_
  refine goOp xdo_bs22_0 rfl ?_
  refine goOp (xdo_bs22_1 5) rfl ?_
  refine goOp (xdo_bs22_2 2 2) rfl ?_
  refine goOp (xdo_bs26_g7 _ _ _ _ _ _ _ rfl rfl rfl rfl rfl rfl rfl rfl) rfl ?_
  exact h _ _ _ _ _ _ _ _ rfl
/-! ### what it comes to -/
def mdM (l : List Int) : List Int := seven.getD (nextOf l 0 7).toNat []
def mdS (l : List Int) : List Int × Nat := shapeT l (nextOf l (nextAt l 0 7) 4).toNat (nextAt l (nextAt l 0 7) 4)
def mdD (l : List Int) : List Int × Nat := dataT l (sizeOf (mdS l).1).toNat (mdS l).2
def mdP (l : List Int) : List Int × Nat := specT l (mdM l).length (mdS l).1.length (mdD l).2 (List.replicate (mdM l).length false)
def madeTr (l : List Int) : Tr := .tup [.agg [trC (mdS l).1, trS (mdD l).1], trF (mdM l), trF (mdP l).1]
theorem seven_len : ∀ m ∈ seven, m.length ≤ 3 := by decide
open Classical in
noncomputable def F31 (args : List AV) (H : Hp) : Option (AV × Hp) := match args with
  | [v] => (ints H v).bind fun l => if In64 l then some (mk (madeTr l) H) else none
  | _ => none
theorem rep_tup3 {c : Nat} {H : Hp} {a b d : Tr} {x y z : AV} {b1 b2 b3 : List (Nat × Nat)} (h1 : Rep c H a x b1) (h2 : Rep c H b y b2) (h3 : Rep c H d z b3) : Rep c H (.tup [a, b, d]) (.tup [x, y, z]) (b1 ++ (b2 ++ b3)) := by
  simp only [Rep, Reps]
  exact ⟨_, rfl, x, _, b1, b2 ++ b3, rfl, h1, ⟨y, _, b2, b3, rfl, h2, ⟨z, _, b3, [], rfl, h3, ⟨rfl, rfl⟩, by simp⟩, rfl⟩, rfl⟩
set_option maxHeartbeats 4000000 in
theorem snd31 : Sound Try.prog 31 (FSem.eff F31).run := by
  refine sound_of hT (EOK_cons snd16 (EOK_cons snd17 (EOK_cons snd18 (EOK_cons snd80 (EOK_nil _))))) mixed A31 Try.func31 hb31 (by kernel_rfl) (by kernel_rfl) (by kernel_rfl) (by kernel_rfl) sh31 1 (by kernel_rfl) rs31 hr31 ?_
  intro args H r H' hw h
  have hv : F31 args H = some (r, H') := h
  clear h
  unfold F31 at hv
  split at hv
  · rename_i v
    obtain ⟨l, hl, hv⟩ := Option.bind_eq_some_iff.1 hv
    split at hv
    rotate_left
    · cases hv
    rename_i hr
    have hvv := Hide.mk (Option.some.inj hv)
    clear hv
    have x0 : Ext H (H.new [.nilS, .nilS]) := (Ext.refl hw).new _
    have c0 : OwnC H (H.new [.nilS, .nilS]) H.bs.length H.c [.nilS, .nilS] := ⟨Nat.le_refl _, new_at _ _⟩
    have hq0lt : H.c < (H.new [AV.nilS, AV.nilS]).c := Nat.lt_succ_self _
    generalize hH0 : H.new [.nilS, .nilS] = H0 at *
    generalize hp0 : H.bs.length = p0 at *
    generalize hq0 : H.c = q0 at *
    have hl0 := ints_ext x0.pre hl
    obtain ⟨hv1, hv2, hvo⟩ := ints_cell hl0
    have ht0 : Tape (H0.new [v, .int .i64 0]) H0.bs.length H0.c v l 0 := ⟨new_at _ _, ints_ext (Pre.new (Pre.refl _) _) hl0, hvo, Nat.zero_le _, hr⟩
    have hE0 : Ext H0 (H0.new [v, .int .i64 0]) := (Ext.refl x0.wf).new _
    have hbx : abox (.agg [v, .int .i64 0]) H0 = some (.ptr H0.bs.length H0.c 0, H0.new [v, .int .i64 0]) := by
      unfold abox; rw [if_pos (by simp [AV.cells, hv2]; rfl)]; rfl
    refine ⟨rfl, go ?_⟩
    unfold c31
    simp only [argSl]
    refine goSeq (goReg ?_)
    iterate 3 (apply goOp; (· (simp [hH0, hp0, hq0]; try exact rfl)); (· exact rfl))
    refine goNil (goSeqN (goSeq (goReg ?_)))
    iterate 4 (apply goOp; (· (simp [hv1, hbx]; try exact rfl)); (· exact rfl))
    refine goNil (goSeqN (goSeq (goReg ?_)))
    have hlt : H0.bs.length < (H0.new [v, .int .i64 0]).bs.length := by rw [new_len]; omega
    have hbl : H0.bs.length ≤ H0.bs.length := Nat.le_refl _
    have hver1 : H0.c < (H0.new [v, .int .i64 0]).c := by rw [new_c]; omega
    have hvH : H0.c ≤ H0.c := Nat.le_refl _
    generalize H0.new [v, .int .i64 0] = H1 at *
    generalize hb : H0.bs.length = b at hbl hlt ht0 hvo ⊢
    generalize hver0 : H0.c = ver at ht0 hver1 hvH hq0lt ⊢
    clear hbx hv1 hv2 hvo
    refine goLits7 fun v0 v1 v2 v3 v4 v5 v6 HL hL => ?_
    have hE1 : Ext H1 HL := by have := litH_ext seven hE0.wf; rwa [hL] at this
    obtain ⟨hk0, hk1⟩ := next_in hr 0 7 (by omega)
    obtain ⟨k, hk⟩ : ∃ k : Nat, nextOf l 0 7 = k := ⟨(nextOf l 0 7).toNat, by omega⟩
    obtain ⟨m, mb, mv, hsz, hm, hmat, hmb, hmv, hmv2⟩ := litH_rep seven hE0.wf k (by simp [seven]; omega)
    rw [hL] at hsz hmat hmv2
    have hmem : m ∈ seven := List.mem_of_getElem? hm
    have hM : mdM l = m := by simp only [mdM, hk, Int.toNat_natCast, List.getD_eq_getElem?_getD, hm, Option.getD_some]
    have hml := seven_len m hmem
    have hvs : HL.bs.length ≠ b := by have := Pre.le hE1.pre; omega
    have ht1 : Tape (HL.new [v0, v1, v2, v3, v4, v5, v6]) b ver v l 0 := ht0.ext (hE1.new _).pre
    have hE2 : Ext H0 (HL.new [v0, v1, v2, v3, v4, v5, v6]) := hE0.trans (hE1.new _)
    have hm1 : (HL.new [v0, v1, v2, v3, v4, v5, v6]).at mb mv = some ⟨mv, m.map (.int .i64), true, true⟩ := at_new hmat _
    have e16 := F16_at ht1 7
    have hix : aidx T 26 (.sl HL.bs.length HL.c 0 7 1 true) (.int .i64 k) = some (.ptr HL.bs.length HL.c k) := by
      rw [aidx26]; simp only [aidxS]; rw [if_pos ⟨trivial, by omega, by omega⟩]; simp
    have hld : aload T 22 (.ptr HL.bs.length HL.c k) (tapePut (HL.new [v0, v1, v2, v3, v4, v5, v6]) b ver v (nextAt l 0 7)) = some (.sl mb mv 0 m.length 1 true) := by
      have := at_put (H := HL.new [v0, v1, v2, v3, v4, v5, v6]) (ver := HL.c) (k := ⟨ver, [v, .int .i64 (nextAt l 0 7)], true, true⟩) hvs
      simp only [aload, T22, tapePut, this, new_at]
      exact hsz
    rw [hk] at e16
    have hmver : mv ≠ ver := by omega
    have hm2 := Keeps.tape (a' := nextAt l 0 7) ht1 hmver _ hm1
    have ht2 : Tape (tapePut (HL.new [v0, v1, v2, v3, v4, v5, v6]) b ver v (nextAt l 0 7)) b ver v l (nextAt l 0 7) := ht1.put (nextAt_le (Nat.zero_le _))
    have hE3 : Ext H0 (tapePut (HL.new [v0, v1, v2, v3, v4, v5, v6]) b ver v (nextAt l 0 7)) := hE2.tapeN (by omega) ht1
    have hver2 : mv < (tapePut (HL.new [v0, v1, v2, v3, v4, v5, v6]) b ver v (nextAt l 0 7)).c := by
      show mv < HL.c + 1
      have : mv < HL.c := hmv2
      omega
    replace hm1 := Hide.mk hm1
    replace hm2 := Hide.mk hm2
    replace ht1 := Hide.mk ht1
    replace ht2 := Hide.mk ht2
    replace hE2 := Hide.mk hE2
    replace hE3 := Hide.mk hE3
    replace hmem := Hide.mk hmem
    replace hver2 := Hide.mk hver2
    replace hr := Hide.mk hr
    replace x0 := Hide.mk x0
    replace c0 := Hide.mk c0
    replace hM := Hide.mk hM
    replace hmat := Hide.mk hmat
    clear hE0 hE1 ht0 hL hm hsz hl0 hH0 hp0
    repeat' (first | apply goSeq | apply goReg | apply goSeqN | apply goSeqR | apply goSkip | apply goRet | apply goNil | apply goBlock | apply goExit | apply goBlkN | apply goBlkR | apply goBlkE | apply goSeqE | apply goLoopR | apply goLoopE | refine xOp ?_ | refine xOp0 ?_ | refine xYes ?_ | refine xNo ?_ | refine xNoU ?_ | refine xIfT ?_ | refine xIfF ?_ | refine xIf ?_ ?_ | refine xSplit ?_ ?_ | refine xIfQ ?_ ?_ | refine xSplitQ ?_ ?_ | refine xBlkX ?_ | intro _)
    have hmv2 : mv < HL.c := hmv2
    have hr := hr.out
    have hm2 := hm2.out
    have hver2 := hver2.out
    clear hv
    have hverG : ver < (tapePut (HL.new [v0, v1, v2, v3, v4, v5, v6]) b ver v (nextAt l 0 7)).c := by omega
    generalize hH2 : tapePut (HL.new [v0, v1, v2, v3, v4, v5, v6]) b ver v (nextAt l 0 7) = H2 at hm2 ht2 hE3 hver2 hverG ⊢
    clear hH2 hld hix e16 ht1 hE2 hm1 hmat
    -- the shape
    obtain ⟨hn0, hn3⟩ := next_in hr (nextAt l 0 7) 4 (by omega)
    have e17 : F17 [.ptr b ver 0] H2 = some (mkS (tapePut H2 b ver v (mdS l).2) (mdS l).1) := by
      simp only [F17]; exact tapeF_at ht2.out
    have h3 : (mdS l).1.length = (nextOf l (nextAt l 0 7) 4).toNat := shapeT_len l (nextOf l (nextAt l 0 7) 4).toNat (nextAt l (nextAt l 0 7) 4)
    have hA : (mdS l).2 ≤ l.length := shapeT_le l (nextOf l (nextAt l 0 7) 4).toNat (nextAt l (nextAt l 0 7) 4) (nextAt_le (nextAt_le (Nat.zero_le _)))
    replace h3 : (mdS l).1.length ≤ 3 := by omega
    have hmd : mdD l = dataT l (sizeOf (mdS l).1).toNat (mdS l).2 := rfl
    have hmp : mdP l = specT l (mdM l).length (mdS l).1.length (mdD l).2 (List.replicate (mdM l).length false) := rfl
    have hmt : madeTr l = .tup [.agg [trC (mdS l).1, trS (mdD l).1], trF (mdM l), trF (mdP l).1] := rfl
    rw [hM.out] at hmp hmt
    generalize mdS l = SA at *
    obtain ⟨S, A2⟩ := SA
    simp only at e17 h3 hA hmd hmp hmt
    have tw := ht2.out.wf (a' := A2) hE3.out.wf
    have ht3 := (ht2.out.put hA).ext (mkS_ext tw S).pre
    have hE4 := (hE3.out.tapeN (a' := A2) (by omega) ht2.out).trans (mkS_ext tw S)
    have ho3 := mkS_own (tapePut H2 b ver v A2) S
    have his3 := ints_of_own ho3 (by omega)
    have hm3 := (mkS_ext tw S).pre.at (Keeps.tape (a' := A2) ht2.out hmver _ hm2)
    have hc3 : H2.c ≤ (mkS (tapePut H2 b ver v A2) S).2.c := (mkS_ext tw S).c
    generalize hr3 : mkS (tapePut H2 b ver v A2) S = r3 at *
    obtain ⟨sv, H3⟩ := r3
    simp only at ht3 hE4 ho3 his3 hm3 hc3
    -- the tensor
    have hsz := sizeOf_le S
    have e80 : F80 [.ptr b ver 0, sv] H3 = some (mk (.agg [trC S, trS (mdD l).1]) (tapePut H3 b ver v (mdD l).2)) := by
      show (ints H3 sv).bind _ = _
      rw [his3, Option.bind_some, if_pos (by omega), hmd]
      exact tapeF_at ht3
    have hDl : (mdD l).1.length ≤ 4096 := by rw [hmd, dataT_len]; omega
    have hA3 : (mdD l).2 ≤ l.length := by rw [hmd]; exact dataT_le _ _ hA
    generalize mdD l = DA at *
    obtain ⟨D, A3⟩ := DA
    simp only at e80 hDl hA3 hmp hmt
    have tw3 := ht3.wf (a' := A3) hE4.wf
    obtain ⟨bs, r1, f1, x1, t1⟩ := mk_tens (H := tapePut H3 b ver v A3) tw3 (a := trC S) (b := trS D) (s := S) (d := D) (.inr (.inr rfl)) (.inl rfl) (by omega) (by omega)
    have ht4 := (ht3.put hA3).ext x1.pre
    have hE5 := (hE4.tapeN (a' := A3) (by omega) ht3).trans x1
    have hm4 := x1.pre.at (Keeps.tape (a' := A3) ht3 hmver _ hm3)
    have hc4 : H3.c ≤ (mk (.agg [trC S, trS D]) (tapePut H3 b ver v A3)).2.c := x1.c
    replace f1 : Fresh H3.c (mk (.agg [trC S, trS D]) (tapePut H3 b ver v A3)).2.c bs := f1
    replace r1 : Rep H3.c (mk (.agg [trC S, trS D]) (tapePut H3 b ver v A3)).2 (.agg [trC S, trS D]) (mk (.agg [trC S, trS D]) (tapePut H3 b ver v A3)).1 bs := r1
    generalize hr4 : mk (.agg [trC S, trS D]) (tapePut H3 b ver v A3) = r4 at *
    obtain ⟨tv, H4⟩ := r4
    simp only at ht4 hE5 hm4 hc4 f1 r1 t1
    obtain ⟨shv, dav, b1, b2, rfl, rs1, rd1, rfl⟩ := rep_agg2.1 r1
    obtain ⟨_, _, hag, hsi, hdi⟩ := tens_some t1
    cases hag
    have hone := ints_one' hsi
    have hone2 := ints_one' hdi
    -- its cell
    have a5 := new_at H4 [.nilS, .nilS]
    have x5 : Ext H4 (H4.new [.nilS, .nilS]) := (Ext.refl hE5.wf).new _
    have st5 := st40 (x := shv) (y := dav) a5 hone hone2
    have hc5 : H4.c < (H4.new [AV.nilS, AV.nilS]).c := Nat.lt_succ_self _
    have x6 : Ext H4 ((H4.new [.nilS, .nilS]).put H4.bs.length ⟨H4.c, [shv, dav], true, true⟩) := put_ext hE5.wf x5 (Nat.le_refl _) a5
    have a6 : ((H4.new [.nilS, .nilS]).put H4.bs.length ⟨H4.c, [shv, dav], true, true⟩).at H4.bs.length H4.c = some ⟨H4.c, [shv, dav], true, true⟩ := at_put_same a5 rfl
    have hc6 : ((H4.new [AV.nilS, AV.nilS]).put H4.bs.length ⟨H4.c, [shv, dav], true, true⟩).c = (H4.new [AV.nilS, AV.nilS]).c := rfl
    generalize hH5 : H4.new [.nilS, .nilS] = H5 at *
    generalize hp5 : H4.bs.length = p5 at *
    generalize hH6 : H5.put p5 ⟨H4.c, [shv, dav], true, true⟩ = H6 at *
    have hE6 := hE5.trans x6
    have ht6 := ht4.ext x6.pre
    have hm6 := x6.pre.at hm4
    have rs6 := Rep.ext x6.pre rs1
    have rd6 := Rep.ext x6.pre rd1
    have hsi6 := ints_ext x6.pre hsi
    have l40 := ld40 a6
    have l22 := ld22 a6 0
    simp only [List.getElem?_cons_zero] at l22
    have hlS := alenS_ints hsi6
    simp only [← alen22] at hlS
    have him6 : ints H6 (.sl mb mv 0 m.length 1 true) = some m := ints_of_ownF (H0 := ⟨[], 0⟩) ⟨mb, mv, rfl, Nat.zero_le _, hm6⟩ (by omega)
    have hmof : off (.sl mb mv 0 m.length 1 true) b = true := by
      have : mb ≠ b := by omega
      simpa [off] using this
    -- the spec
    have e18 : F18 [.ptr b ver 0, .sl mb mv 0 m.length 1 true, .int .i64 S.length] H6 = some (mkF (tapePut H6 b ver v (mdP l).2) (mdP l).1) := by
      rw [F18_at ht6 him6 (by omega) (by omega) hmof, hmp]
    have hPl : (mdP l).1.length ≤ 3 := by rw [hmp, specT_len]; exact h3
    generalize mdP l = PA at *
    obtain ⟨P, A4⟩ := PA
    simp only at e18 hPl hmt
    have tw6 := ht6.wf (a' := A4) hE6.wf
    have ho7 := mkF_own (tapePut H6 b ver v A4) P
    have hx7 := mkF_ext tw6 P
    have hk7 : ∀ b' ver', ver' ≠ ver → Keeps H6 (mkF (tapePut H6 b ver v A4) P).2 b' ver' := fun b' ver' h => (Keeps.tape ht6 h).trans (Keeps.pre hx7.pre b' ver')
    have hE7 := (hE6.tapeN (a' := A4) (by omega) ht6).trans hx7
    have hc7 : H6.c < (mkF (tapePut H6 b ver v A4) P).2.c := Nat.lt_succ_self _
    generalize hr7 : mkF (tapePut H6 b ver v A4) P = r7 at *
    obtain ⟨pv, H7⟩ := r7
    simp only at ho7 hk7 hE7 hc7
    obtain ⟨b7, r7, f7⟩ := OwnF.repF hE7.wf ho7
    have a7 := hk7 p5 H4.c (by omega) _ a6
    have l40b := ld40 a7
    have c7 : OwnC H H7 p0 q0 [.nilS, .nilS] := (c0.out.ext hE7.pre)
    have st8 := st40 (x := shv) (y := dav) c7.at' hone hone2
    have hk8 : ∀ b' ver', ver' ≠ q0 → Keeps H7 (H7.put p0 ⟨q0, [shv, dav], true, true⟩) b' ver' := fun b' ver' h => Keeps.put c7.at' h
    have lr := ld40 (at_put_same (k' := ⟨q0, [shv, dav], true, true⟩) c7.at' rfl)
    have hx8 := put_ext (cs := [shv, dav]) hw (x0.out.trans hE7) (by omega) c7.at'
    replace f7 : Fresh H6.c H7.c b7 := f7
    replace r7 : Rep H6.c H7 (trF P) pv b7 := r7
    clear ht2 hE3 ht3 hE4 ho3 his3 hm3 tw tw3 x1 ht4 hE5 hm4 r1 t1 rs1 rd1 hsi hdi a5 x5 x6 hE6 ht6 hsi6 him6 hmof tw6 ho7 hx7 hE7 c7 hn0 hn3 hk0 hk1 hk hH6
    replace f1 := Hide.mk f1
    replace f7 := Hide.mk f7
    replace r7 := Hide.mk r7
    replace rs6 := Hide.mk rs6
    replace rd6 := Hide.mk rd6
    replace hm6 := Hide.mk hm6
    replace hk7 := Hide.mk hk7
    replace hk8 := Hide.mk hk8
    replace hx8 := Hide.mk hx8
    replace hmt := Hide.mk hmt
    repeat' (first | apply goSeq | apply goReg | apply goSeqN | apply goSeqR | apply goSkip | apply goRet | apply goNil | apply goBlock | apply goExit | apply goBlkN | apply goBlkR | apply goBlkE | apply goSeqE | apply goLoopR | apply goLoopE | refine xOp ?_ | refine xOp0 ?_ | refine xYes ?_ | refine xNo ?_ | refine xNoU ?_ | refine xIfT ?_ | refine xIfF ?_ | refine xIf ?_ ?_ | refine xSplit ?_ ?_ | refine xIfQ ?_ ?_ | refine xSplitQ ?_ ?_ | refine xBlkX ?_ | intro _)
    apply goDrw
    iterate 8 (apply goTOp; (· (simp [*]; try exact rfl)); (· exact rfl))
    apply goTOp0; (· (simp [*]; try exact rfl)); (· exact rfl)
    iterate 2 (apply goTOp; (· (simp [*]; try exact rfl)); (· exact rfl))
    refine goTNil (by simp [again, XG_none, get, l40, l40b]) ?_
    repeat' (first | apply goSeq | apply goReg | apply goSeqN | apply goSeqR | apply goSkip | apply goRet | apply goNil | apply goBlock | apply goExit | apply goBlkN | apply goBlkR | apply goBlkE | apply goSeqE | apply goLoopR | apply goLoopE | refine xOp ?_ | refine xOp0 ?_ | refine xYes ?_ | refine xNo ?_ | refine xNoU ?_ | refine xIfT ?_ | refine xIfF ?_ | refine xIf ?_ ?_ | refine xSplit ?_ ?_ | refine xIfQ ?_ ?_ | refine xSplitQ ?_ ?_ | refine xBlkX ?_ | intro _)
    have hf1 := f1.out
    have hf7 := f7.out
    have hk12 : ∀ p ∈ b1 ++ b2, p.2 ≠ ver ∧ p.2 ≠ q0 := fun p hp => by have := (hf1.2 p hp).1; omega
    have hk77 : ∀ p ∈ b7, p.2 ≠ q0 := fun p hp => by have := (hf7.2 p hp).1; omega
    have hkk : ∀ b' ver', ver' ≠ ver → ver' ≠ q0 → Keeps H6 (H7.put p0 ⟨q0, [shv, dav], true, true⟩) b' ver' := fun b' ver' h1 h2 => (hk7.out b' ver' h1).trans (hk8.out b' ver' h2)
    have hm8 : Rep H.c (H7.put p0 ⟨q0, [shv, dav], true, true⟩) (trF m) (.sl mb mv 0 m.length 1 true) [(mb, mv)] := rep_F.2 ⟨mb, mv, rfl, by omega, hkk mb mv hmver (by omega) _ hm6.out, rfl⟩
    have ht8 : Rep H.c (H7.put p0 ⟨q0, [shv, dav], true, true⟩) (.agg [trC S, trS D]) (.agg [shv, dav]) (b1 ++ b2) :=
      rep_agg2.2 ⟨shv, dav, b1, b2, rfl, rep_down _ (c0 := 0) (okT_C 0 S) (Nat.zero_le _) (by omega) (Rep.keep (trC S) (fun p hp => hkk p.1 p.2 (hk12 p (by simp [hp])).1 (hk12 p (by simp [hp])).2) rs6.out), rep_down _ (c0 := 0) (okT_S 0 D) (Nat.zero_le _) (by omega) (Rep.keep (trS D) (fun p hp => hkk p.1 p.2 (hk12 p (by simp [hp])).1 (hk12 p (by simp [hp])).2) rd6.out), rfl⟩
    have hp8 : Rep H.c (H7.put p0 ⟨q0, [shv, dav], true, true⟩) (trF P) pv b7 := rep_down _ (c0 := 0) (okT_F 0 P) (Nat.zero_le _) (by omega) (Rep.keep (trF P) (fun p hp => hk8.out p.1 p.2 (hk77 p hp)) r7.out)
    have hall : Fresh H.c H7.c ((b1 ++ b2) ++ ([(mb, mv)] ++ b7)) := by
      have g1 : Fresh H.c H2.c [(mb, mv)] := Fresh.one (by omega) hver2
      have g2 := g1.app (hf1.wide hc3 (Nat.le_refl _)) (by omega) (by omega)
      have g3 := g2.app (hf7.wide (by omega : H4.c ≤ H6.c) (Nat.le_refl _)) (by omega) (by omega)
      refine g3.perm ?_
      rw [← List.append_assoc (b1 ++ b2)]
      exact List.Perm.append_right b7 List.perm_append_comm
    exact goEndR (vs := [.agg [shv, dav], .sl mb mv 0 m.length 1 true, pv]) (bs := (b1 ++ b2) ++ ([(mb, mv)] ++ b7)) (d := H7.c) (t := .tup [.agg [trC S, trS D], trF m, trF P]) hw hx8.out.pre (rep_tup3 ht8 hm8 hp8) hall (by simp) (by simp [rs31, lr]) rfl (hmt.out ▸ hvv.out)
  · cases hv
/- Walks: some of chapter 17's runs. -/
section
variable {E : Env} {s : Sl} {H : Hp} {k : Ct} {l : List Co}
theorem lit_new (hw : Wf H) (m : List Int) (hm : m.length ≤ 1152921504606846976) : Ext H (H.new (m.map (.int .i64))) ∧ ints (H.new (m.map (.int .i64))) (.sl H.bs.length H.c 0 m.length 1 true) = some m :=
  ⟨(Ext.refl hw).new _, ints_of_ownF (H0 := H) ⟨_, _, rfl, Nat.le_refl _, new_at _ _⟩ hm⟩
/-- A list of one number that stands in the text. -/
theorem goLit1 {d : Nat} {a : Int} (hw : Wf H) (h : ∀ v A, Ext H A → ints A v = some [a] → notMt v = true → YL E T false l ((d, v) :: s) A k) : YL E T false (⟨some d, .buildSlice 22 1 #[(0, .const (.int .i64 a))], none⟩ :: l) s H k := by
  obtain ⟨h1, h2⟩ := lit_new hw [a] (by simp)
  exact goOp (xdo_bs22_1 a) rfl (h _ _ h1 h2 rfl)
theorem xdo_bs38_3 {sh : Bool} (a b c : Int) : xdo E T sh (.buildSlice 38 3 #[(0, .const (.int .i64 a)), (1, .const (.int .i64 b)), (2, .const (.int .i64 c))]) s H = some (.sl H.bs.length H.c 0 3 1 true, H.new ([a, b, c].map (.int .i64))) := by
  simp [xdo, aop, D38, T2, rep, afill, setAll, AV.cells, AV.one]
theorem goLit3 {d : Nat} {a b c : Int} (hw : Wf H) (h : ∀ v A, Ext H A → ints A v = some [a, b, c] → notMt v = true → YL E T false l ((d, v) :: s) A k) : YL E T false (⟨some d, .buildSlice 38 3 #[(0, .const (.int .i64 a)), (1, .const (.int .i64 b)), (2, .const (.int .i64 c))], none⟩ :: l) s H k := by
  obtain ⟨h1, h2⟩ := lit_new hw [a, b, c] (by simp)
  exact goOp (xdo_bs38_3 a b c) rfl (h _ _ h1 h2 rfl)
/-- A cell of a tensor's own is made and filled. -/
theorem goCell {d : Nat} {o : Operand} {x y : AV} (hw : Wf H) (hx : x.one = true) (hy : y.one = true) (he : ∀ u, ev ((d, u) :: s) o = .agg [x, y]) (hd : ∀ u, ev ((d, u) :: s) (.tmp d) = u)
    (h : ∀ b ver A, Ext H A → A.at b ver = some ⟨ver, [x, y], true, true⟩ → H.c ≤ ver → ver < A.c → (∀ b' ver', Keeps H A b' ver') → YL E T false l ((d, .ptr b ver 0) :: s) A k) :
    YL E T false (⟨some d, .alloc 40, none⟩ :: ⟨none, .store 40 (.tmp d) o, none⟩ :: l) s H k := by
  have a0 := new_at H [.nilS, .nilS]
  have x0 : Ext H (H.new [.nilS, .nilS]) := (Ext.refl hw).new _
  have x1 := put_ext (cs := [x, y]) hw x0 (Nat.le_refl _) a0
  refine goOp xdo_alloc40 rfl (goOp0 (v := .bad) (H' := (H.new [.nilS, .nilS]).put H.bs.length ⟨H.c, [x, y], true, true⟩) (by simp [he, hd]; exact rfl) (by rw [st40 a0 hx hy]; rfl) (h _ _ _ x1 (at_put_same a0 rfl) (Nat.le_refl _) (Nat.lt_succ_self _) fun b' ver' => Keeps.pre x1.pre b' ver'))
end
/-- What All hands back, as lists. -/
noncomputable def allL (p : List Int × List Int) (sz sp : List Int) : List TS := (List.range (devs sz).toNat).map fun (d : Nat) => (sizeL p.1 sz sp d, partD p sz sp d)
theorem allL_len (p : List Int × List Int) (sz sp : List Int) : (allL p sz sp).length = (devs sz).toNat := by simp [allL]
theorem allL_at (p : List Int × List Int) (sz sp : List Int) {j : Nat} (h : j < (devs sz).toNat) : tth (allL p sz sp) j = (sizeL p.1 sz sp j, partD p sz sp j) := by
  simp [tth, allL, List.getD_eq_getElem?_getD, h]
theorem all_rep {H : Hp} (hw : Wf H) {p : List Int × List Int} {sz sp : List Int} (hm : mayL p sz sp = 0) : ∃ v H1, mk (allT p sz sp) H = (.tup [v, .int .i64 0], H1) ∧ Ext H H1 ∧ tensL H1 v = some (allL p sz sp) := by
  have h8 := devs_le sz
  have hres : allT p sz sp = .tup [trTs (partsN p sz sp (devs sz).toNat), .at (.int .i64 0)] := by simp [allT, hm]
  obtain ⟨bs, h1, _, h3⟩ := mk_rep (trTs (partsN p sz sp (devs sz).toNat)) (c0 := 0) hw (Nat.zero_le _) (okT_Ts 0 p sz sp _)
  refine ⟨_, _, by rw [hres, mk_tupI], h3, ?_⟩
  refine rep_tensL h1 (by rw [partsN_len, allL_len]) (by rw [allL_len]; omega) fun j hj => ?_
  rw [allL_len] at hj
  rw [allL_at p sz sp hj]
  refine ⟨trS (sizeL p.1 sz sp j), trF (partD p sz sp j), by simp [partsN, hj], .inl rfl, .inr (.inl rfl), ?_, ?_⟩
  · have := sizeL_len p.1 sz sp j
    show (sizeL p.1 sz sp j).length ≤ _
    omega
  · have := partD_len p sz sp j
    show (partD p sz sp j).length ≤ _
    omega
/-! ### the numbers -/
theorem kn_may (d : Int) (h0 : 0 ≤ d) (h1 : d < 2) : mayCut [3] [2] [0] d := ⟨by decide, by decide, h0, by rw [known_devs]; exact h1⟩
theorem kn_may1 (d : Int) (h0 : 0 ≤ d) (h1 : d < 2) : mayCut [3] [2] [-1] d := ⟨by decide, by decide, h0, by rw [known_devs]; exact h1⟩
theorem kn_s0 : sizeL [3] [2] [0] 0 = [2] := by unfold sizeL cutsL; rw [if_pos (kn_may 0 (by decide) (by decide))]; decide
theorem kn_s1 : sizeL [3] [2] [0] 1 = [1] := by unfold sizeL cutsL; rw [if_pos (kn_may 1 (by decide) (by decide))]; decide
theorem kn_f0 : fromL [3] [2] [0] 0 = [0] := by unfold fromL cutsL; rw [if_pos (kn_may 0 (by decide) (by decide))]; decide
theorem kn_f1 : fromL [3] [2] [0] 1 = [2] := by unfold fromL cutsL; rw [if_pos (kn_may 1 (by decide) (by decide))]; decide
theorem kn_t0 : sizeL [3] [2] [-1] 0 = [3] := by unfold sizeL cutsL; rw [if_pos (kn_may1 0 (by decide) (by decide))]; decide
theorem kn_t1 : sizeL [3] [2] [-1] 1 = [3] := by unfold sizeL cutsL; rw [if_pos (kn_may1 1 (by decide) (by decide))]; decide
theorem kn_all : allL ([3], [1, 2, 3]) [2] [0] = [([2], [1, 2]), ([1], [3])] := by
  have hd : (devs [2]).toNat = 2 := by decide
  have h0 : partD ([3], [1, 2, 3]) [2] [0] 0 = [1, 2] := by unfold partD; simp only [kn_s0, kn_f0]; decide
  have h1 : partD ([3], [1, 2, 3]) [2] [0] 1 = [3] := by unfold partD; simp only [kn_s1, kn_f1]; decide
  unfold allL
  rw [hd]
  simp [List.range_succ, kn_s0, kn_s1, h0, h1]
theorem kn_join (sv : AV) : joinT sv [([3], [1, 2, 3]), ([3], [1, 2, 4])] [3] [2] [-1] = zeroT 25 := by
  unfold joinT
  rw [if_pos (by decide), if_pos (by decide), if_pos, if_neg (by decide)]
  rw [allN_iff]
  intro j hj
  simp only [List.length_cons, List.length_nil] at hj
  unfold ok1
  rcases (by omega : j = 0 ∨ j = 1) with rfl | rfl
  · rw [show ((0 : Nat) : Int) = 0 from rfl, kn_t0]; decide
  · rw [show ((1 : Nat) : Int) = 1 from rfl, kn_t1]; decide
def bs45_2 (a b : AV) (H : Hp) : Option (AV × Hp) := (afill (fun j => some (j * 2, 2)) [.nilS, .nilS, .nilS, .nilS] [(0, a), (1, b)]).map fun cs => (.sl H.bs.length H.c 0 2 2 true, H.new cs)
theorem bs45_2_agg {x y z u : AV} (H : Hp) (hx : x.one = true) (hy : y.one = true) (hz : z.one = true) (hu : u.one = true) : bs45_2 (.agg [x, y]) (.agg [z, u]) H = some (.sl H.bs.length H.c 0 2 2 true, H.new [x, y, z, u]) := by
  simp [bs45_2, afill, AV.cells, hx, hy, hz, hu, setAll]
theorem xdo_bs45_2 {E : Env} {sh : Bool} {s : Sl} {H : Hp} (x y : Operand) : xdo E T sh (.buildSlice 45 2 #[(0, x), (1, y)]) s H = bs45_2 (ev s x) (ev s y) H := by
  simp [xdo, aop, D45, T40, rep, bs45_2]
theorem tensL_2 {H A : Hp} {x y z u : AV} {p q : TS} (hA : A = H.new [x, y, z, u]) (h1 : tens A (.agg [x, y]) = some p) (h2 : tens A (.agg [z, u]) = some q) : tensL A (.sl H.bs.length H.c 0 2 2 true) = some [p, q] := by
  subst hA
  simp only [tensL, new_at, Option.bind_some]
  simp [tensG, h1, h2]
def F36 (args : List AV) (H : Hp) : Option AV := match args with
  | [] => some (.bool true)
  | _ => none
set_option maxHeartbeats 2000000 in
theorem snd36 : Sound Try.prog 36 (FSem.pure F36).run := by
  refine sound_of hT (EOK_cons snd37 (EOK_cons snd38 (EOK_nil _))) mixed A36 Try.func36 hb36 (by kernel_rfl) (by kernel_rfl) (by kernel_rfl) (by kernel_rfl) sh36 0 (by kernel_rfl) rs36 hr36 ?_
  intro args H r H' hw h
  obtain ⟨rfl, hv⟩ := pureAt h
  clear h
  unfold F36 at hv
  split at hv
  rotate_left
  · cases hv
  cases hv
  refine ⟨rfl, go ?_⟩
  unfold c36
  simp only [argSl]
  refine goSeq (goReg (goOp rfl rfl (goNil (goSeqN ?_))))
  refine goSeq (goReg ?_)
  refine goLit1 hw fun v6 A1 x1 i6 m6 => ?_
  refine goLit3 x1.wf fun v7 A2 x2 i7 m7 => ?_
  have i6' := ints_ext x2.pre i6
  have hb := bld40_one (ints_one' i6') (ints_one' i7)
  apply goOp; (· (simp [hb]; exact rfl)); (· exact rfl)
  refine goCell x2.wf (ints_one' i6') (ints_one' i7) (fun u => rfl) (fun u => rfl) fun b0 q0 A3 x3 a3 u1 u2 u3 => ?_
  have ht3 := tens_of (ints_ext x3.pre i6') (ints_ext x3.pre i7)
  have l3 := ld40 a3
  refine goNil (goSeqN (goSeq (goReg ?_)))
  apply goOp; (· (simp [l3]; exact rfl)); (· exact rfl)
  refine goLit1 x3.wf fun v11 A4 x4 i11 _ => ?_
  refine goLit1 x4.wf fun v12 A5 x5 i12 m12 => ?_
  have ht5 := tens_ext (x4.pre.trans x5.pre) ht3
  obtain ⟨lv, A6, hal, x6, hL⟩ := all_rep (H := A5) x5.wf (p := ([3], [1, 2, 3])) (sz := [2]) (sp := [0]) (by decide)
  rw [kn_all] at hL
  have e37 : F37 [.agg [v6, v7], v11, v12] A5 = some (.tup [lv, .int .i64 0], A6) := by
    show (tens A5 _).bind _ = _
    rw [ht5, Option.bind_some, ints_ext x5.pre i11, Option.bind_some, i12, Option.map_some, hal]
  iterate 6 (apply goOp; (· (simp [e37]; exact rfl)); (· exact rfl))
  refine goNil (goSeqN (goSeq (goReg ?_)))
  have l6 := ld40 ((x4.pre.trans (x5.pre.trans x6.pre)).at a3)
  apply goOp; (· (simp [l6]; exact rfl)); (· exact rfl)
  refine goLit1 x6.wf fun v18 A7 x7 i18 _ => ?_
  refine goLit3 x7.wf fun v19 A8 x8 i19 _ => ?_
  have i18' := ints_ext x8.pre i18
  have hb2 := bld40_one (ints_one' i18') (ints_one' i19)
  apply goOp; (· (simp [hb2]; exact rfl)); (· exact rfl)
  have hb3 := bs45_2_agg A8 (ints_one' i6') (ints_one' i7) (ints_one' i18') (ints_one' i19)
  refine goOp (v := .sl A8.bs.length A8.c 0 2 2 true) (H' := A8.new [v6, v7, v18, v19]) (xdo_bs45_2 _ _) hb3 ?_
  have x9 : Ext A8 (A8.new [v6, v7, v18, v19]) := (Ext.refl x8.wf).new _
  have hxx := ((((x4.pre.trans x5.pre).trans x6.pre).trans x7.pre).trans x8.pre).trans x9.pre
  have hL2 : tensL (A8.new [v6, v7, v18, v19]) (.sl A8.bs.length A8.c 0 2 2 true) = some [([3], [1, 2, 3]), ([3], [1, 2, 4])] :=
    tensL_2 rfl (tens_ext hxx ht3) (tens_of (ints_ext x9.pre i18') (ints_ext x9.pre i19))
  generalize A8.new [v6, v7, v18, v19] = A9 at *
  generalize AV.sl A8.bs.length A8.c 0 2 2 true = jl at *
  refine goLit1 x9.wf fun v22 A10 x10 i22 m22 => ?_
  refine goLit1 x10.wf fun v23 A11 x11 i23 _ => ?_
  refine goLit1 x11.wf fun v24 A12 x12 i24 _ => ?_
  have e38 : F38 [jl, v22, v23, v24] A12 = some (.tup [.agg [.nilS, .nilS], .int .i64 25], A12) := by
    show (tensL A12 _).bind _ = _
    rw [tensL_ext ((x10.pre.trans x11.pre).trans x12.pre) hL2, Option.bind_some, ints_ext (x11.pre.trans x12.pre) i22, Option.bind_some, ints_ext x12.pre i23, Option.bind_some, i24, Option.bind_some, if_pos ⟨m22, by simp⟩, kn_join, mk_zero]
  iterate 4 (apply goOp; (· (simp [e38]; exact rfl)); (· exact rfl))
  refine goCell x12.wf rfl rfl (fun u => rfl) (fun u => rfl) fun b4 q4 A13 x13 a13 u4 u5 u6 => ?_
  apply goOp; (· (simp; exact rfl)); (· exact rfl)
  refine goNil (goSeqN (goSeq (goReg ?_)))
  have hp : Pre A6 A13 := (((((x7.pre.trans x8.pre).trans x9.pre).trans x10.pre).trans x11.pre).trans x12.pre).trans x13.pre
  have hPA : Pre H' A13 := ((((((x1.pre.trans x2.pre).trans x3.pre).trans x4.pre).trans x5.pre).trans x6.pre)).trans hp
  obtain ⟨hn, h1t, hat⟩ := tensL_at (tensL_ext hp hL)
  obtain ⟨q1, x1', y1, g1, g2, g3, b1, w1, o1, rfl, g4⟩ := hat 0 (by decide)
  obtain ⟨q2, x2', y2, h1, h2, h3, b2, w2, o2, rfl, h4⟩ := hat 1 (by decide)
  obtain ⟨_, _, hag, hx1, hy1⟩ := tens_some g3
  cases hag
  obtain ⟨_, _, hag, hx2, hy2⟩ := tens_some h3
  cases hag
  have hy1' : ints A13 y1 = some [1, 2] := hy1
  have hy2' : ints A13 y2 = some [3] := hy2
  have n1 := alenS_ints hy1'
  have n2 := alenS_ints hy2'
  have ix2 := aidxS_ints hy2' .i64 0
  have ld2 := aload_nth T2 rfl hy2' 0 (by decide) (by decide)
  simp only [← alen38] at n1 n2
  simp only [← aidx38] at ix2
  replace hn : alen T 45 lv = some (.int .i64 2) := hn
  replace n1 : alen T 38 y1 = some (.int .i64 2) := n1
  replace n2 : alen T 38 y2 = some (.int .i64 1) := n2
  replace ix2 : aidx T 38 y2 (.int .i64 0) = some (pAt y2 0) := ix2
  replace ld2 : aload T 2 (pAt y2 0) A13 = some (.int .i64 3) := ld2
  replace g1 : aidx T 45 lv (.int .i64 0) = some (.ptr b1 w1 o1) := g1
  replace h1 : aidx T 45 lv (.int .i64 1) = some (.ptr b2 w2 o2) := h1
  replace hPA := Hide.mk hPA
  have hww := Hide.mk hw
  clear h1t hx1 hx2 hw u1 u2 u3 u4 u5 u6 x1 x2 x3 x4 x5 x6 x7 x8 x9 x10 x11 x12 x13 i6 i7 i6' i11 i12 i18 i18' i19 i22 i23 i24 ht3 ht5 hL hL2 a3 a13 l3 l6 hxx hp hat hy1 hy2 g3 h3 hy1' hy2' e37 e38 hb hb2 hb3 m6 m7 m22 hal g2 h2
  repeat' (first | apply goSeq | apply goReg | apply goSeqN | apply goSeqR | apply goSkip | apply goRet | apply goNil | apply goBlock | apply goExit | apply goBlkN | apply goBlkR | apply goBlkE | apply goSeqE | apply goLoopR | apply goLoopE | refine xOp ?_ | refine xOp0 ?_ | refine xYes ?_ | refine xNo ?_ | refine xNoU ?_ | refine xIfT ?_ | refine xIfF ?_ | refine xIf ?_ ?_ | refine xSplit ?_ ?_ | refine xIfQ ?_ ?_ | refine xSplitQ ?_ ?_ | refine xBlkX ?_ | intro _)
  exact goEnd hww.out hPA.out (by simp) (by simp [rs36]; exact rfl) rfl rfl
/- Functions in short form. -/
/-! parquetry/parquetryref14.At (2 parameters; calls 20 parquetry/parquetryref14.Devices) -/
def A98 : Ann := { live := fun i => if i = 5 then [0, 1, 5, 6] else [], drop := fun i => false }
noncomputable def c98 : Cc :=
  (.seq (.reg false [⟨some 4, (Op.assign (Operand.const (Value.slice none 0 0))), none⟩])
  (.seq (.seq (.reg false [⟨some 7, (Op.move (Operand.tmp 1)), none⟩,
    ⟨some 8, (Op.binOp BinOp.lss 3 (Operand.tmp 7) (Operand.const (Value.int IntKind.i64 0)) 3), none⟩,
    ⟨some 9, (Op.move (Operand.tmp 8)), none⟩,
    ⟨some 10, (Op.move (Operand.tmp 1)), some (9, false)⟩,
    ⟨some 11, (Op.move (Operand.tmp 0)), some (9, false)⟩,
    ⟨some 12, (Op.call { callee := (Callee.value (Operand.func 20)), args := #[(Operand.tmp 11)], argTypes := #[22] }), some (9, false)⟩,
    ⟨some 13, (Op.binOp BinOp.geq 3 (Operand.tmp 10) (Operand.tmp 12) 3), some (9, false)⟩,
    ⟨some 14, (Op.pick (Operand.tmp 9) (Operand.const (Value.bool true)) (Operand.tmp 13)), none⟩])
  (.cond (Operand.tmp 14)
    (.seq (.reg false [⟨some 4, (Op.assign (Operand.const (Value.slice none 0 0))), none⟩])
    .ret)
    .skip))
  (.seq (.reg false [⟨some 15, (Op.move (Operand.tmp 0)), none⟩,
    ⟨some 16, (Op.call { callee := (Callee.builtin Builtin.len), args := #[(Operand.tmp 15)], argTypes := #[22] }), none⟩,
    ⟨some 17, (Op.makeSlice 22 (Operand.tmp 16) (Operand.tmp 16)), none⟩,
    ⟨some 5, (Op.assign (Operand.tmp 17)), none⟩])
  (.seq (.seq (.reg false [⟨some 18, (Op.move (Operand.tmp 0)), none⟩,
    ⟨some 19, (Op.call { callee := (Callee.builtin Builtin.len), args := #[(Operand.tmp 18)], argTypes := #[22] }), none⟩,
    ⟨some 20, (Op.binOp BinOp.sub 3 (Operand.tmp 19) (Operand.const (Value.int IntKind.i64 1)) 3), none⟩,
    ⟨some 6, (Op.assign (Operand.tmp 20)), none⟩])
  (.block 0 (.loop [0, 1, 5, 6] false
    (.seq (.seq (.reg false [⟨some 21, (Op.move (Operand.tmp 6)), none⟩,
      ⟨some 22, (Op.binOp BinOp.geq 3 (Operand.tmp 21) (Operand.const (Value.int IntKind.i64 0)) 3), none⟩])
    (.cond (Operand.tmp 22)
      .skip
      (.exit 0)))
    (.seq (.block 1 (.seq (.reg false [⟨some 25, (Op.move (Operand.tmp 5)), none⟩,
      ⟨some 26, (Op.move (Operand.tmp 6)), none⟩,
      ⟨some 27, (Op.move (Operand.tmp 1)), none⟩,
      ⟨some 28, (Op.move (Operand.tmp 0)), none⟩,
      ⟨some 29, (Op.move (Operand.tmp 6)), none⟩,
      ⟨some 30, (Op.indexAddr 22 (Operand.tmp 28) (Operand.tmp 29)), none⟩,
      ⟨some 31, (Op.load 3 (Operand.tmp 30)), none⟩,
      ⟨some 32, (Op.binOp BinOp.rem 3 (Operand.tmp 27) (Operand.tmp 31) 3), none⟩,
      ⟨some 33, (Op.indexAddr 22 (Operand.tmp 25) (Operand.tmp 26)), none⟩,
      ⟨none, (Op.store 3 (Operand.tmp 33) (Operand.tmp 32)), none⟩])
    (.reg false [⟨some 34, (Op.move (Operand.tmp 1)), none⟩,
      ⟨some 35, (Op.move (Operand.tmp 0)), none⟩,
      ⟨some 36, (Op.move (Operand.tmp 6)), none⟩,
      ⟨some 37, (Op.indexAddr 22 (Operand.tmp 35) (Operand.tmp 36)), none⟩,
      ⟨some 38, (Op.load 3 (Operand.tmp 37)), none⟩,
      ⟨some 39, (Op.binOp BinOp.quo 3 (Operand.tmp 34) (Operand.tmp 38) 3), none⟩,
      ⟨some 1, (Op.assign (Operand.tmp 39)), none⟩])))
    (.reg false [⟨some 23, (Op.move (Operand.tmp 6)), none⟩,
      ⟨some 24, (Op.binOp BinOp.sub 3 (Operand.tmp 23) (Operand.const (Value.int IntKind.i64 1)) 3), none⟩,
      ⟨some 6, (Op.assign (Operand.tmp 24)), none⟩]))))))
  (.seq (.reg false [⟨some 40, (Op.move (Operand.tmp 5)), none⟩,
    ⟨some 4, (Op.assign (Operand.tmp 40)), none⟩])
  .ret)))))
noncomputable def b98 : Code := Try.f98.body.getD .skip
theorem hb98 : Try.f98.body = some b98 := by kernel_rfl
theorem sh98 : shortC A98 b98 = c98 := by kernel_rfl
def rs98 : List ResultVar := [(ResultVar.tmp 4)]
theorem hr98 : Try.f98.results.toList = rs98 := by kernel_rfl
/-! parquetry/parquetryref14.Of (2 parameters; calls 56 parquetry/parquetryref14.Right) -/
def A127 : Ann := { live := fun i => if i = 5 then [0, 1, 5, 18, 19] else [], drop := fun i => false }
noncomputable def c127 : Cc :=
  (.seq (.reg false [⟨some 4, (Op.assign (Operand.const (Value.int IntKind.i64 0))), none⟩])
  (.seq (.seq (.reg false [⟨some 7, (Op.move (Operand.tmp 0)), none⟩,
    ⟨some 8, (Op.call { callee := (Callee.value (Operand.func 56)), args := #[(Operand.tmp 7)], argTypes := #[22] }), none⟩,
    ⟨some 9, (Op.unOp UnOp.not 4 (Operand.tmp 8)), none⟩,
    ⟨some 10, (Op.move (Operand.tmp 9)), none⟩,
    ⟨some 11, (Op.move (Operand.tmp 1)), some (10, false)⟩,
    ⟨some 12, (Op.call { callee := (Callee.builtin Builtin.len), args := #[(Operand.tmp 11)], argTypes := #[22] }), some (10, false)⟩,
    ⟨some 13, (Op.move (Operand.tmp 0)), some (10, false)⟩,
    ⟨some 14, (Op.call { callee := (Callee.builtin Builtin.len), args := #[(Operand.tmp 13)], argTypes := #[22] }), some (10, false)⟩,
    ⟨some 15, (Op.binOp BinOp.neq 3 (Operand.tmp 12) (Operand.tmp 14) 3), some (10, false)⟩,
    ⟨some 16, (Op.pick (Operand.tmp 10) (Operand.const (Value.bool true)) (Operand.tmp 15)), none⟩])
  (.cond (Operand.tmp 16)
    (.seq (.reg false [⟨some 4, (Op.assign (Operand.const (Value.int IntKind.i64 (-1)))), none⟩])
    .ret)
    .skip))
  (.seq (.reg false [⟨some 5, (Op.assign (Operand.const (Value.int IntKind.i64 0))), none⟩])
  (.seq (.seq (.reg false [⟨some 17, (Op.move (Operand.tmp 0)), none⟩,
    ⟨some 18, (Op.call { callee := (Callee.builtin Builtin.len), args := #[(Operand.tmp 17)], argTypes := #[22] }), none⟩,
    ⟨some 19, (Op.move (Operand.const (Value.int IntKind.i64 0))), none⟩])
  (.block 0 (.loop [0, 1, 5, 18, 19] false
    (.seq (.reg false [⟨some 20, (Op.binOp BinOp.lss 3 (Operand.tmp 19) (Operand.tmp 18) 3), none⟩])
    (.seq (.cond (Operand.tmp 20)
      .skip
      (.exit 0))
    (.seq (.block 1 (.seq (.reg false [⟨some 21, (Op.move (Operand.tmp 19)), none⟩,
      ⟨some 6, (Op.assign (Operand.tmp 21)), none⟩])
    (.seq (.seq (.reg false [⟨some 22, (Op.move (Operand.tmp 1)), none⟩,
      ⟨some 23, (Op.move (Operand.tmp 6)), none⟩,
      ⟨some 24, (Op.indexAddr 22 (Operand.tmp 22) (Operand.tmp 23)), none⟩,
      ⟨some 25, (Op.load 3 (Operand.tmp 24)), none⟩,
      ⟨some 26, (Op.binOp BinOp.lss 3 (Operand.tmp 25) (Operand.const (Value.int IntKind.i64 0)) 3), none⟩,
      ⟨some 27, (Op.move (Operand.tmp 26)), none⟩,
      ⟨some 28, (Op.move (Operand.tmp 1)), some (27, false)⟩,
      ⟨some 29, (Op.move (Operand.tmp 6)), some (27, false)⟩,
      ⟨some 30, (Op.indexAddr 22 (Operand.tmp 28) (Operand.tmp 29)), some (27, false)⟩,
      ⟨some 31, (Op.load 3 (Operand.tmp 30)), some (27, false)⟩,
      ⟨some 32, (Op.move (Operand.tmp 0)), some (27, false)⟩,
      ⟨some 33, (Op.move (Operand.tmp 6)), some (27, false)⟩,
      ⟨some 34, (Op.indexAddr 22 (Operand.tmp 32) (Operand.tmp 33)), some (27, false)⟩,
      ⟨some 35, (Op.load 3 (Operand.tmp 34)), some (27, false)⟩,
      ⟨some 36, (Op.binOp BinOp.geq 3 (Operand.tmp 31) (Operand.tmp 35) 3), some (27, false)⟩,
      ⟨some 37, (Op.pick (Operand.tmp 27) (Operand.const (Value.bool true)) (Operand.tmp 36)), none⟩])
    (.cond (Operand.tmp 37)
      (.seq (.reg false [⟨some 4, (Op.assign (Operand.const (Value.int IntKind.i64 (-1)))), none⟩])
      .ret)
      .skip))
    (.reg false [⟨some 38, (Op.move (Operand.tmp 5)), none⟩,
      ⟨some 39, (Op.move (Operand.tmp 0)), none⟩,
      ⟨some 40, (Op.move (Operand.tmp 6)), none⟩,
      ⟨some 41, (Op.indexAddr 22 (Operand.tmp 39) (Operand.tmp 40)), none⟩,
      ⟨some 42, (Op.load 3 (Operand.tmp 41)), none⟩,
      ⟨some 43, (Op.binOp BinOp.mul 3 (Operand.tmp 38) (Operand.tmp 42) 3), none⟩,
      ⟨some 44, (Op.move (Operand.tmp 1)), none⟩,
      ⟨some 45, (Op.move (Operand.tmp 6)), none⟩,
      ⟨some 46, (Op.indexAddr 22 (Operand.tmp 44) (Operand.tmp 45)), none⟩,
      ⟨some 47, (Op.load 3 (Operand.tmp 46)), none⟩,
      ⟨some 48, (Op.binOp BinOp.add 3 (Operand.tmp 43) (Operand.tmp 47) 3), none⟩,
      ⟨some 5, (Op.assign (Operand.tmp 48)), none⟩]))))
    (.reg false [⟨some 49, (Op.binOp BinOp.add 3 (Operand.tmp 19) (Operand.const (Value.int IntKind.i64 1)) 3), none⟩,
      ⟨some 19, (Op.move (Operand.tmp 49)), none⟩])))))))
  (.seq (.reg false [⟨some 50, (Op.move (Operand.tmp 5)), none⟩,
    ⟨some 4, (Op.assign (Operand.tmp 50)), none⟩])
  .ret)))))
noncomputable def b127 : Code := Try.f127.body.getD .skip
theorem hb127 : Try.f127.body = some b127 := by kernel_rfl
theorem sh127 : shortC A127 b127 = c127 := by kernel_rfl
def rs127 : List ResultVar := [(ResultVar.tmp 4)]
theorem hr127 : Try.f127.results.toList = rs127 := by kernel_rfl
/-! parquetry/parquetryref14.First (3 parameters; calls 20 parquetry/parquetryref14.Devices, 58 parquetry/parquetryref14.Spec, 98 parquetry/parquetryref14.At, 127 parquetry/parquetryref14.Of) -/
def A67 : Ann := { live := fun i => if i = 5 then [0, 1, 7, 31, 32] else if i = 9 then [0, 1, 7, 8, 9, 31, 32, 36, 37] else [], drop := fun i => false }
noncomputable def c67 : Cc :=
  (.seq (.reg false [⟨some 6, (Op.assign (Operand.const (Value.int IntKind.i64 0))), none⟩])
  (.seq (.seq (.reg false [⟨some 11, (Op.move (Operand.tmp 2)), none⟩,
    ⟨some 12, (Op.binOp BinOp.lss 3 (Operand.tmp 11) (Operand.const (Value.int IntKind.i64 0)) 3), none⟩,
    ⟨some 13, (Op.move (Operand.tmp 12)), none⟩,
    ⟨some 14, (Op.move (Operand.tmp 2)), some (13, false)⟩,
    ⟨some 15, (Op.move (Operand.tmp 0)), some (13, false)⟩,
    ⟨some 16, (Op.call { callee := (Callee.value (Operand.func 20)), args := #[(Operand.tmp 15)], argTypes := #[22] }), some (13, false)⟩,
    ⟨some 17, (Op.binOp BinOp.geq 3 (Operand.tmp 14) (Operand.tmp 16) 3), some (13, false)⟩,
    ⟨some 18, (Op.pick (Operand.tmp 13) (Operand.const (Value.bool true)) (Operand.tmp 17)), none⟩,
    ⟨some 19, (Op.move (Operand.tmp 18)), none⟩,
    ⟨some 20, (Op.move (Operand.tmp 0)), some (19, false)⟩,
    ⟨some 21, (Op.move (Operand.tmp 1)), some (19, false)⟩,
    ⟨some 22, (Op.move (Operand.tmp 1)), some (19, false)⟩,
    ⟨some 23, (Op.call { callee := (Callee.builtin Builtin.len), args := #[(Operand.tmp 22)], argTypes := #[22] }), some (19, false)⟩,
    ⟨some 24, (Op.call { callee := (Callee.value (Operand.func 58)), args := #[(Operand.tmp 20), (Operand.tmp 21), (Operand.tmp 23)], argTypes := #[22, 22, 3] }), some (19, false)⟩,
    ⟨some 25, (Op.unOp UnOp.not 4 (Operand.tmp 24)), some (19, false)⟩,
    ⟨some 26, (Op.pick (Operand.tmp 19) (Operand.const (Value.bool true)) (Operand.tmp 25)), none⟩])
  (.cond (Operand.tmp 26)
    (.seq (.reg false [⟨some 6, (Op.assign (Operand.const (Value.int IntKind.i64 (-1)))), none⟩])
    .ret)
    .skip))
  (.seq (.reg false [⟨some 27, (Op.move (Operand.tmp 0)), none⟩,
    ⟨some 28, (Op.move (Operand.tmp 2)), none⟩,
    ⟨some 29, (Op.call { callee := (Callee.value (Operand.func 98)), args := #[(Operand.tmp 27), (Operand.tmp 28)], argTypes := #[22, 3] }), none⟩,
    ⟨some 7, (Op.assign (Operand.tmp 29)), none⟩])
  (.seq (.seq (.reg false [⟨some 30, (Op.move (Operand.tmp 7)), none⟩,
    ⟨some 31, (Op.call { callee := (Callee.builtin Builtin.len), args := #[(Operand.tmp 30)], argTypes := #[22] }), none⟩,
    ⟨some 32, (Op.move (Operand.const (Value.int IntKind.i64 0))), none⟩])
  (.block 0 (.loop [0, 1, 7, 31, 32] false
    (.seq (.reg false [⟨some 33, (Op.binOp BinOp.lss 3 (Operand.tmp 32) (Operand.tmp 31) 3), none⟩])
    (.seq (.cond (Operand.tmp 33)
      .skip
      (.exit 0))
    (.seq (.block 1 (.seq (.reg false [⟨some 34, (Op.move (Operand.tmp 32)), none⟩,
      ⟨some 8, (Op.assign (Operand.tmp 34)), none⟩])
    (.seq (.reg false [⟨some 9, (Op.assign (Operand.const (Value.bool false))), none⟩])
    (.seq (.seq (.reg false [⟨some 35, (Op.move (Operand.tmp 1)), none⟩,
      ⟨some 36, (Op.call { callee := (Callee.builtin Builtin.len), args := #[(Operand.tmp 35)], argTypes := #[22] }), none⟩,
      ⟨some 37, (Op.move (Operand.const (Value.int IntKind.i64 0))), none⟩])
    (.block 2 (.loop [0, 1, 7, 8, 9, 31, 32, 36, 37] false
      (.seq (.reg false [⟨some 38, (Op.binOp BinOp.lss 3 (Operand.tmp 37) (Operand.tmp 36) 3), none⟩])
      (.seq (.cond (Operand.tmp 38)
        .skip
        (.exit 2))
      (.seq (.block 3 (.seq (.reg false [⟨some 39, (Op.move (Operand.tmp 37)), none⟩,
        ⟨some 10, (Op.assign (Operand.tmp 39)), none⟩])
      (.reg false [⟨some 40, (Op.move (Operand.tmp 9)), none⟩,
        ⟨some 41, (Op.move (Operand.tmp 40)), none⟩,
        ⟨some 42, (Op.move (Operand.tmp 1)), some (41, false)⟩,
        ⟨some 43, (Op.move (Operand.tmp 10)), some (41, false)⟩,
        ⟨some 44, (Op.indexAddr 22 (Operand.tmp 42) (Operand.tmp 43)), some (41, false)⟩,
        ⟨some 45, (Op.load 3 (Operand.tmp 44)), some (41, false)⟩,
        ⟨some 46, (Op.move (Operand.tmp 8)), some (41, false)⟩,
        ⟨some 47, (Op.binOp BinOp.eql 3 (Operand.tmp 45) (Operand.tmp 46) 3), some (41, false)⟩,
        ⟨some 48, (Op.pick (Operand.tmp 41) (Operand.const (Value.bool true)) (Operand.tmp 47)), none⟩,
        ⟨some 9, (Op.assign (Operand.tmp 48)), none⟩])))
      (.reg false [⟨some 49, (Op.binOp BinOp.add 3 (Operand.tmp 37) (Operand.const (Value.int IntKind.i64 1)) 3), none⟩,
        ⟨some 37, (Op.move (Operand.tmp 49)), none⟩])))))))
    (.seq (.reg false [⟨some 50, (Op.move (Operand.tmp 9)), none⟩,
      ⟨some 51, (Op.unOp UnOp.not 4 (Operand.tmp 50)), none⟩])
    (.cond (Operand.tmp 51)
      (.reg false [⟨some 52, (Op.move (Operand.tmp 7)), none⟩,
        ⟨some 53, (Op.move (Operand.tmp 8)), none⟩,
        ⟨some 54, (Op.indexAddr 22 (Operand.tmp 52) (Operand.tmp 53)), none⟩,
        ⟨none, (Op.store 3 (Operand.tmp 54) (Operand.const (Value.int IntKind.i64 0))), none⟩])
      .skip))))))
    (.reg false [⟨some 55, (Op.binOp BinOp.add 3 (Operand.tmp 32) (Operand.const (Value.int IntKind.i64 1)) 3), none⟩,
      ⟨some 32, (Op.move (Operand.tmp 55)), none⟩])))))))
  (.seq (.reg false [⟨some 56, (Op.move (Operand.tmp 0)), none⟩,
    ⟨some 57, (Op.move (Operand.tmp 7)), none⟩,
    ⟨some 58, (Op.call { callee := (Callee.value (Operand.func 127)), args := #[(Operand.tmp 56), (Operand.tmp 57)], argTypes := #[22, 22] }), none⟩,
    ⟨some 6, (Op.assign (Operand.tmp 58)), none⟩])
  .ret)))))
noncomputable def b67 : Code := Try.f67.body.getD .skip
theorem hb67 : Try.f67.body = some b67 := by kernel_rfl
theorem sh67 : shortC A67 b67 = c67 := by kernel_rfl
def rs67 : List ResultVar := [(ResultVar.tmp 6)]
theorem hr67 : Try.f67.results.toList = rs67 := by kernel_rfl
/- Walks: where a device is, in the document; slices.Equal; the least device that has the same part. -/
def F98 (args : List AV) (H : Hp) : Option (AV × Hp) := match args with
  | [a, .int .i64 d] => (ints H a).map fun sz => if d < 0 ∨ devs sz ≤ d then (.nilS, H) else mkF H (meshAt sz d)
  | _ => none
set_option maxHeartbeats 1000000 in
theorem snd98 : Sound Try.prog 98 (FSem.eff F98).run := by
  refine sound_of hT (EOK_cons snd20 (EOK_nil _)) mixed A98 Try.func98 hb98 (by kernel_rfl) (by kernel_rfl) (by kernel_rfl) (by kernel_rfl) sh98 2 (by kernel_rfl) rs98 hr98 ?_
  intro args H r H' hw h
  have hv : F98 args H = some (r, H') := h
  clear h
  unfold F98 at hv
  split at hv
  · rename_i v d
    obtain ⟨l, hl, hv⟩ := Option.map_eq_some_iff.1 hv
    have hlen := alenS_ints hl
    have hrd := rDevs_eq l
    have hb := ints_len hl
    have hix := aidxS_ints hl .i64
    have hld := fun {H1 : Hp} (he : Pre H H1) => aload_nth T3 rfl (ints_ext he hl)
    refine ⟨rfl, go ?_⟩
    unfold c98
    simp only [argSl]
    simp only [← aidx22, ← alen22] at hix hlen
    replace hv := Hide.mk hv
    repeat' (first | apply goSeq | apply goReg | apply goSeqN | apply goSeqR | apply goSkip | apply goRet | apply goNil | apply goBlock | apply goExit | apply goBlkN | apply goBlkR | apply goBlkE | apply goSeqE | apply goLoopR | apply goLoopE | refine xOp ?_ | refine xOp0 ?_ | refine xYes ?_ | refine xNo ?_ | refine xNoU ?_ | refine xIfT ?_ | refine xIfF ?_ | refine xIf ?_ ?_ | refine xSplit ?_ ?_ | refine xIfQ ?_ ?_ | refine xSplitQ ?_ ?_ | refine xBlkX ?_ | intro _)
    · rename_i h1
      replace hv := hv.out
      rw [if_pos (.inl h1)] at hv
      exact goEndS (l := []) hw (Ext.refl hw) (.inl ⟨rfl, rfl⟩) (by simp) (by simp [rs98]) rfl hv
    · rename_i h1 h2
      replace hv := hv.out
      rw [if_pos (.inr h2)] at hv
      exact goEndS (l := []) hw (Ext.refl hw) (.inl ⟨rfl, rfl⟩) (by simp) (by simp [rs98]) rfl hv
    · rename_i h1 h2
      replace hv := hv.out
      rw [if_neg (by omega)] at hv
      have hm : meshOK l = true := by
        rcases hmm : meshOK l with _ | _
        · exfalso; simp [devs, hmm] at h2; omega
        · rfl
      obtain ⟨h3, hpos⟩ := meshOK_pos hm
      obtain ⟨u, H1, e, ho, he⟩ := make_own (Ext.refl hw) l.length (by omega)
      refine goOp (v := u) (H' := H1) rfl (by simp; exact e) ?_
      replace hv := Hide.mk hv
      repeat' (first | apply goSeq | apply goReg | apply goSeqN | apply goSeqR | apply goSkip | apply goRet | apply goNil | apply goBlock | apply goExit | apply goBlkN | apply goBlkR | apply goBlkE | apply goSeqE | apply goLoopR | apply goLoopE | refine xOp ?_ | refine xOp0 ?_ | refine xYes ?_ | refine xNo ?_ | refine xNoU ?_ | refine xIfT ?_ | refine xIfF ?_ | refine xIf ?_ ?_ | refine xSplit ?_ ?_ | refine xIfQ ?_ ?_ | refine xSplitQ ?_ ?_ | refine xBlkX ?_ | intro _)
      have hwl : w ((l.length : Int) - 1) = (l.length : Int) - 1 := w_id (by omega)
      rw [hwl]
      refine goLoop (fun m s1 H1 => Ext H H1 ∧ ∃ (d1 : Int) (out : List Int) (u : AV), m ≤ l.length ∧ get s1 0 = v ∧ get s1 1 = .int .i64 d1 ∧ get s1 5 = u ∧ get s1 6 = .int .i64 ((m : Int) - 1) ∧ OwnF H H1 u out ∧ out.length = l.length ∧ atW l m d1 out = meshAt l d) l.length ?_ ?_
      · exact ⟨he, d, _, u, Nat.le_refl _, rfl, rfl, rfl, rfl, ho, by simp, rfl⟩
      · clear he ho e hwl h1 h2 hm
        rintro m s1 H1 ⟨he, d1, out, u, hi, g1, g2, g3, g4, ho, hol, hgo⟩
        have hixu := aidxS_ints (ints_of_ownF ho (by omega)) .i64
        simp only [← aidx22] at hixu
        have hl1 := hld he.pre
        cases m with
        | zero =>
          simp only [cut_cons, cut_nil, g1, g2, g3, g4]
          clear g1 g2 g3 g4
          replace ho := Hide.mk ho
          replace hgo := Hide.mk hgo
          repeat' (first | apply goSeq | apply goReg | apply goSeqN | apply goSeqR | apply goSkip | apply goRet | apply goNil | apply goBlock | apply goExit | apply goBlkN | apply goBlkR | apply goBlkE | apply goSeqE | apply goLoopR | apply goLoopE | refine xOp ?_ | refine xOp0 ?_ | refine xYes ?_ | refine xNo ?_ | refine xNoU ?_ | refine xIfT ?_ | refine xIfF ?_ | refine xIf ?_ ?_ | refine xSplit ?_ ?_ | refine xIfQ ?_ ?_ | refine xSplitQ ?_ ?_ | refine xBlkX ?_ | intro _)
          refine goEndF hw he ho.out (by simp) (by simp [rs98]) rfl ?_
          rw [← hv.out, ← hgo.out]
          rfl
        | succ m =>
          rw [show (((m + 1 : Nat) : Int) - 1) = (m : Int) by omega] at g4
          simp only [cut_cons, cut_nil, g1, g2, g3, g4]
          clear g1 g2 g3 g4
          have hm0 : (0 : Int) ≤ m := Int.natCast_nonneg m
          have hml : m < l.length := by omega
          have hne : ¬ nth l m = 0 := by have := hpos m hml; omega
          have hwm : w ((m : Int) - 1) = (m : Int) - 1 := w_id (by omega)
          replace ho := Hide.mk ho
          replace hgo := Hide.mk hgo
          repeat' (first | apply goSeq | apply goReg | apply goSeqN | apply goSeqR | apply goSkip | apply goRet | apply goNil | apply goBlock | apply goExit | apply goBlkN | apply goBlkR | apply goBlkE | apply goSeqE | apply goLoopR | apply goLoopE | refine xOp ?_ | refine xOp0 ?_ | refine xYes ?_ | refine xNo ?_ | refine xNoU ?_ | refine xIfT ?_ | refine xIfF ?_ | refine xIf ?_ ?_ | refine xSplit ?_ ?_ | refine xIfQ ?_ ?_ | refine xSplitQ ?_ ?_ | refine xBlkX ?_ | intro _)
          obtain ⟨H2, e, ho', he'⟩ := store_own hw he ho.out m (by omega) (d1.tmod (nth l m))
          have hl2 := hld he'.pre
          refine goOp0 (v := .bad) (H' := H2) rfl (by simp [e]) ?_
          replace ho' := Hide.mk ho'
          clear e
          repeat' (first | apply goSeq | apply goReg | apply goSeqN | apply goSeqR | apply goSkip | apply goRet | apply goNil | apply goBlock | apply goExit | apply goBlkN | apply goBlkR | apply goBlkE | apply goSeqE | apply goLoopR | apply goLoopE | refine xOp ?_ | refine xOp0 ?_ | refine xYes ?_ | refine xNo ?_ | refine xNoU ?_ | refine xIfT ?_ | refine xIfF ?_ | refine xIf ?_ ?_ | refine xSplit ?_ ?_ | refine xIfQ ?_ ?_ | refine xSplitQ ?_ ?_ | refine xBlkX ?_ | intro _)
          exact goLoopN m (by omega) ⟨he', _, _, u, by omega, rfl, rfl, rfl, rfl, ho'.out, by simp [hol], by rw [← hgo.out]; rfl⟩
  · cases hv
@[simp] theorem F98_at (a : AV) (d : Int) (H : Hp) : F98 [a, .int .i64 d] H = (ints H a).map fun sz => if d < 0 ∨ devs sz ≤ d then (.nilS, H) else mkF H (meshAt sz d) := rfl
/- Functions in short form. -/
/-! parquetry/parquetryref14.may (3 parameters; calls 56 parquetry/parquetryref14.Right, 58 parquetry/parquetryref14.Spec, 101 parquetry/parquetryref1.Right) -/
def A85 : Ann := { drop := fun i => false }
noncomputable def c85 : Cc :=
  (.seq (.reg false [⟨some 6, (Op.assign (Operand.const (Value.bool false))), none⟩])
  (.seq (.reg false [⟨some 7, (Op.move (Operand.tmp 0)), none⟩,
    ⟨some 8, (Op.call { callee := (Callee.value (Operand.func 101)), args := #[(Operand.tmp 7)], argTypes := #[22] }), none⟩,
    ⟨some 9, (Op.move (Operand.tmp 8)), none⟩,
    ⟨some 10, (Op.move (Operand.tmp 1)), some (9, true)⟩,
    ⟨some 11, (Op.call { callee := (Callee.value (Operand.func 56)), args := #[(Operand.tmp 10)], argTypes := #[22] }), some (9, true)⟩,
    ⟨some 12, (Op.pick (Operand.tmp 9) (Operand.tmp 11) (Operand.const (Value.bool false))), none⟩,
    ⟨some 13, (Op.move (Operand.tmp 12)), none⟩,
    ⟨some 14, (Op.move (Operand.tmp 1)), some (13, true)⟩,
    ⟨some 15, (Op.move (Operand.tmp 2)), some (13, true)⟩,
    ⟨some 16, (Op.move (Operand.tmp 0)), some (13, true)⟩,
    ⟨some 17, (Op.call { callee := (Callee.builtin Builtin.len), args := #[(Operand.tmp 16)], argTypes := #[22] }), some (13, true)⟩,
    ⟨some 18, (Op.call { callee := (Callee.value (Operand.func 58)), args := #[(Operand.tmp 14), (Operand.tmp 15), (Operand.tmp 17)], argTypes := #[22, 22, 3] }), some (13, true)⟩,
    ⟨some 19, (Op.pick (Operand.tmp 13) (Operand.tmp 18) (Operand.const (Value.bool false))), none⟩,
    ⟨some 6, (Op.assign (Operand.tmp 19)), none⟩])
  .ret))
noncomputable def b85 : Code := Try.f85.body.getD .skip
theorem hb85 : Try.f85.body = some b85 := by kernel_rfl
theorem sh85 : shortC A85 b85 = c85 := by kernel_rfl
def rs85 : List ResultVar := [(ResultVar.tmp 6)]
theorem hr85 : Try.f85.results.toList = rs85 := by kernel_rfl
/-! parquetry/parquetryref14.Width (2 parameters; calls none) -/
def A140 : Ann := { drop := fun i => false }
noncomputable def c140 : Cc :=
  (.seq (.reg false [⟨some 4, (Op.assign (Operand.const (Value.int IntKind.i64 0))), none⟩])
  (.seq (.seq (.reg false [⟨some 6, (Op.move (Operand.tmp 0)), none⟩,
    ⟨some 7, (Op.binOp BinOp.lss 3 (Operand.tmp 6) (Operand.const (Value.int IntKind.i64 0)) 3), none⟩,
    ⟨some 8, (Op.move (Operand.tmp 7)), none⟩,
    ⟨some 9, (Op.move (Operand.tmp 1)), some (8, false)⟩,
    ⟨some 10, (Op.binOp BinOp.lss 3 (Operand.tmp 9) (Operand.const (Value.int IntKind.i64 1)) 3), some (8, false)⟩,
    ⟨some 11, (Op.pick (Operand.tmp 8) (Operand.const (Value.bool true)) (Operand.tmp 10)), none⟩])
  (.cond (Operand.tmp 11)
    (.seq (.reg false [⟨some 4, (Op.assign (Operand.const (Value.int IntKind.i64 0))), none⟩])
    .ret)
    .skip))
  (.seq (.reg false [⟨some 12, (Op.move (Operand.tmp 0)), none⟩,
    ⟨some 13, (Op.move (Operand.tmp 1)), none⟩,
    ⟨some 14, (Op.binOp BinOp.quo 3 (Operand.tmp 12) (Operand.tmp 13) 3), none⟩,
    ⟨some 5, (Op.assign (Operand.tmp 14)), none⟩])
  (.seq (.seq (.reg false [⟨some 15, (Op.move (Operand.tmp 0)), none⟩,
    ⟨some 16, (Op.move (Operand.tmp 1)), none⟩,
    ⟨some 17, (Op.binOp BinOp.rem 3 (Operand.tmp 15) (Operand.tmp 16) 3), none⟩,
    ⟨some 18, (Op.binOp BinOp.gtr 3 (Operand.tmp 17) (Operand.const (Value.int IntKind.i64 0)) 3), none⟩])
  (.cond (Operand.tmp 18)
    (.reg false [⟨some 19, (Op.move (Operand.tmp 5)), none⟩,
      ⟨some 20, (Op.binOp BinOp.add 3 (Operand.tmp 19) (Operand.const (Value.int IntKind.i64 1)) 3), none⟩,
      ⟨some 5, (Op.assign (Operand.tmp 20)), none⟩])
    .skip))
  (.seq (.reg false [⟨some 21, (Op.move (Operand.tmp 5)), none⟩,
    ⟨some 4, (Op.assign (Operand.tmp 21)), none⟩])
  .ret)))))
noncomputable def b140 : Code := Try.f140.body.getD .skip
theorem hb140 : Try.f140.body = some b140 := by kernel_rfl
theorem sh140 : shortC A140 b140 = c140 := by kernel_rfl
def rs140 : List ResultVar := [(ResultVar.tmp 4)]
theorem hr140 : Try.f140.results.toList = rs140 := by kernel_rfl
/-! parquetry/parquetryref14.Cut (3 parameters; calls 140 parquetry/parquetryref14.Width) -/
def A99 : Ann := { drop := fun i => false }
noncomputable def c99 : Cc :=
  (.seq (.reg false [⟨some 6, (Op.assign (Operand.const (Value.int IntKind.i64 0))), none⟩,
    ⟨some 7, (Op.assign (Operand.const (Value.int IntKind.i64 0))), none⟩])
  (.seq (.seq (.reg false [⟨some 11, (Op.move (Operand.tmp 0)), none⟩,
    ⟨some 12, (Op.binOp BinOp.lss 3 (Operand.tmp 11) (Operand.const (Value.int IntKind.i64 0)) 3), none⟩,
    ⟨some 13, (Op.move (Operand.tmp 12)), none⟩,
    ⟨some 14, (Op.move (Operand.tmp 1)), some (13, false)⟩,
    ⟨some 15, (Op.binOp BinOp.lss 3 (Operand.tmp 14) (Operand.const (Value.int IntKind.i64 1)) 3), some (13, false)⟩,
    ⟨some 16, (Op.pick (Operand.tmp 13) (Operand.const (Value.bool true)) (Operand.tmp 15)), none⟩,
    ⟨some 17, (Op.move (Operand.tmp 16)), none⟩,
    ⟨some 18, (Op.move (Operand.tmp 2)), some (17, false)⟩,
    ⟨some 19, (Op.binOp BinOp.lss 3 (Operand.tmp 18) (Operand.const (Value.int IntKind.i64 0)) 3), some (17, false)⟩,
    ⟨some 20, (Op.pick (Operand.tmp 17) (Operand.const (Value.bool true)) (Operand.tmp 19)), none⟩,
    ⟨some 21, (Op.move (Operand.tmp 20)), none⟩,
    ⟨some 22, (Op.move (Operand.tmp 2)), some (21, false)⟩,
    ⟨some 23, (Op.move (Operand.tmp 1)), some (21, false)⟩,
    ⟨some 24, (Op.binOp BinOp.geq 3 (Operand.tmp 22) (Operand.tmp 23) 3), some (21, false)⟩,
    ⟨some 25, (Op.pick (Operand.tmp 21) (Operand.const (Value.bool true)) (Operand.tmp 24)), none⟩])
  (.cond (Operand.tmp 25)
    (.seq (.reg false [⟨some 6, (Op.assign (Operand.const (Value.int IntKind.i64 0))), none⟩,
      ⟨some 7, (Op.assign (Operand.const (Value.int IntKind.i64 0))), none⟩])
    .ret)
    .skip))
  (.seq (.reg false [⟨some 26, (Op.move (Operand.tmp 0)), none⟩,
    ⟨some 27, (Op.move (Operand.tmp 1)), none⟩,
    ⟨some 28, (Op.call { callee := (Callee.value (Operand.func 140)), args := #[(Operand.tmp 26), (Operand.tmp 27)], argTypes := #[3, 3] }), none⟩,
    ⟨some 8, (Op.assign (Operand.tmp 28)), none⟩])
  (.seq (.reg false [⟨some 29, (Op.move (Operand.tmp 0)), none⟩,
    ⟨some 9, (Op.assign (Operand.tmp 29)), none⟩])
  (.seq (.seq (.reg false [⟨some 30, (Op.move (Operand.tmp 8)), none⟩,
    ⟨some 31, (Op.binOp BinOp.eql 3 (Operand.tmp 30) (Operand.const (Value.int IntKind.i64 0)) 3), none⟩,
    ⟨some 32, (Op.move (Operand.tmp 31)), none⟩,
    ⟨some 33, (Op.move (Operand.tmp 2)), some (32, false)⟩,
    ⟨some 34, (Op.move (Operand.tmp 0)), some (32, false)⟩,
    ⟨some 35, (Op.move (Operand.tmp 8)), some (32, false)⟩,
    ⟨some 36, (Op.binOp BinOp.quo 3 (Operand.tmp 34) (Operand.tmp 35) 3), some (32, false)⟩,
    ⟨some 37, (Op.binOp BinOp.leq 3 (Operand.tmp 33) (Operand.tmp 36) 3), some (32, false)⟩,
    ⟨some 38, (Op.pick (Operand.tmp 32) (Operand.const (Value.bool true)) (Operand.tmp 37)), none⟩])
  (.cond (Operand.tmp 38)
    (.reg false [⟨some 39, (Op.move (Operand.tmp 2)), none⟩,
      ⟨some 40, (Op.move (Operand.tmp 8)), none⟩,
      ⟨some 41, (Op.binOp BinOp.mul 3 (Operand.tmp 39) (Operand.tmp 40) 3), none⟩,
      ⟨some 42, (Op.move (Operand.tmp 0)), none⟩,
      ⟨some 43, (Op.call { callee := (Callee.builtin Builtin.min), args := #[(Operand.tmp 41), (Operand.tmp 42)], argTypes := #[3, 3] }), none⟩,
      ⟨some 9, (Op.assign (Operand.tmp 43)), none⟩])
    .skip))
  (.seq (.reg false [⟨some 44, (Op.move (Operand.tmp 0)), none⟩,
    ⟨some 10, (Op.assign (Operand.tmp 44)), none⟩])
  (.seq (.seq (.reg false [⟨some 45, (Op.move (Operand.tmp 8)), none⟩,
    ⟨some 46, (Op.move (Operand.tmp 0)), none⟩,
    ⟨some 47, (Op.move (Operand.tmp 9)), none⟩,
    ⟨some 48, (Op.binOp BinOp.sub 3 (Operand.tmp 46) (Operand.tmp 47) 3), none⟩,
    ⟨some 49, (Op.binOp BinOp.leq 3 (Operand.tmp 45) (Operand.tmp 48) 3), none⟩])
  (.cond (Operand.tmp 49)
    (.reg false [⟨some 50, (Op.move (Operand.tmp 9)), none⟩,
      ⟨some 51, (Op.move (Operand.tmp 8)), none⟩,
      ⟨some 52, (Op.binOp BinOp.add 3 (Operand.tmp 50) (Operand.tmp 51) 3), none⟩,
      ⟨some 10, (Op.assign (Operand.tmp 52)), none⟩])
    .skip))
  (.seq (.reg false [⟨some 53, (Op.move (Operand.tmp 9)), none⟩,
    ⟨some 54, (Op.move (Operand.tmp 10)), none⟩,
    ⟨some 6, (Op.assign (Operand.tmp 53)), none⟩,
    ⟨some 7, (Op.assign (Operand.tmp 54)), none⟩])
  .ret))))))))
noncomputable def b99 : Code := Try.f99.body.getD .skip
theorem hb99 : Try.f99.body = some b99 := by kernel_rfl
theorem sh99 : shortC A99 b99 = c99 := by kernel_rfl
def rs99 : List ResultVar := [(ResultVar.tmp 6), (ResultVar.tmp 7)]
theorem hr99 : Try.f99.results.toList = rs99 := by kernel_rfl
/-! parquetry/parquetryref14.Tile (4 parameters; calls 20 parquetry/parquetryref14.Devices, 85 parquetry/parquetryref14.may, 98 parquetry/parquetryref14.At, 99 parquetry/parquetryref14.Cut) -/
def A40 : Ann := { live := fun i => if i = 6 then [0, 1, 2, 10, 11, 12, 35, 36] else [], drop := fun i => false }
noncomputable def c40 : Cc :=
  (.seq (.reg false [⟨some 8, (Op.assign (Operand.const (Value.slice none 0 0))), none⟩,
    ⟨some 9, (Op.assign (Operand.const (Value.slice none 0 0))), none⟩])
  (.seq (.seq (.reg false [⟨some 16, (Op.move (Operand.tmp 0)), none⟩,
    ⟨some 17, (Op.move (Operand.tmp 1)), none⟩,
    ⟨some 18, (Op.move (Operand.tmp 2)), none⟩,
    ⟨some 19, (Op.call { callee := (Callee.value (Operand.func 85)), args := #[(Operand.tmp 16), (Operand.tmp 17), (Operand.tmp 18)], argTypes := #[22, 22, 22] }), none⟩,
    ⟨some 20, (Op.unOp UnOp.not 4 (Operand.tmp 19)), none⟩,
    ⟨some 21, (Op.move (Operand.tmp 20)), none⟩,
    ⟨some 22, (Op.move (Operand.tmp 3)), some (21, false)⟩,
    ⟨some 23, (Op.binOp BinOp.lss 3 (Operand.tmp 22) (Operand.const (Value.int IntKind.i64 0)) 3), some (21, false)⟩,
    ⟨some 24, (Op.pick (Operand.tmp 21) (Operand.const (Value.bool true)) (Operand.tmp 23)), none⟩,
    ⟨some 25, (Op.move (Operand.tmp 24)), none⟩,
    ⟨some 26, (Op.move (Operand.tmp 3)), some (25, false)⟩,
    ⟨some 27, (Op.move (Operand.tmp 1)), some (25, false)⟩,
    ⟨some 28, (Op.call { callee := (Callee.value (Operand.func 20)), args := #[(Operand.tmp 27)], argTypes := #[22] }), some (25, false)⟩,
    ⟨some 29, (Op.binOp BinOp.geq 3 (Operand.tmp 26) (Operand.tmp 28) 3), some (25, false)⟩,
    ⟨some 30, (Op.pick (Operand.tmp 25) (Operand.const (Value.bool true)) (Operand.tmp 29)), none⟩])
  (.cond (Operand.tmp 30)
    (.seq (.reg false [⟨some 8, (Op.assign (Operand.const (Value.slice none 0 0))), none⟩,
      ⟨some 9, (Op.assign (Operand.const (Value.slice none 0 0))), none⟩])
    .ret)
    .skip))
  (.seq (.reg false [⟨some 31, (Op.move (Operand.tmp 1)), none⟩,
    ⟨some 32, (Op.move (Operand.tmp 3)), none⟩,
    ⟨some 33, (Op.call { callee := (Callee.value (Operand.func 98)), args := #[(Operand.tmp 31), (Operand.tmp 32)], argTypes := #[22, 3] }), none⟩,
    ⟨some 10, (Op.assign (Operand.tmp 33)), none⟩])
  (.seq (.reg false [⟨some 11, (Op.assign (Operand.const (Value.slice none 0 0))), none⟩,
    ⟨some 12, (Op.assign (Operand.const (Value.slice none 0 0))), none⟩])
  (.seq (.seq (.reg false [⟨some 34, (Op.move (Operand.tmp 0)), none⟩,
    ⟨some 35, (Op.call { callee := (Callee.builtin Builtin.len), args := #[(Operand.tmp 34)], argTypes := #[22] }), none⟩,
    ⟨some 36, (Op.move (Operand.const (Value.int IntKind.i64 0))), none⟩])
  (.block 0 (.loop [0, 1, 2, 10, 11, 12, 35, 36] false
    (.seq (.reg false [⟨some 37, (Op.binOp BinOp.lss 3 (Operand.tmp 36) (Operand.tmp 35) 3), none⟩])
    (.seq (.cond (Operand.tmp 37)
      .skip
      (.exit 0))
    (.seq (.block 1 (.seq (.reg false [⟨some 38, (Op.move (Operand.tmp 36)), none⟩,
      ⟨some 13, (Op.assign (Operand.tmp 38)), none⟩])
    (.seq (.reg false [⟨some 39, (Op.move (Operand.tmp 0)), none⟩,
      ⟨some 40, (Op.move (Operand.tmp 13)), none⟩,
      ⟨some 41, (Op.indexAddr 22 (Operand.tmp 39) (Operand.tmp 40)), none⟩,
      ⟨some 42, (Op.load 3 (Operand.tmp 41)), none⟩,
      ⟨some 14, (Op.assign (Operand.const (Value.int IntKind.i64 0))), none⟩,
      ⟨some 15, (Op.assign (Operand.tmp 42)), none⟩])
    (.seq (.seq (.reg false [⟨some 43, (Op.move (Operand.tmp 2)), none⟩,
      ⟨some 44, (Op.move (Operand.tmp 13)), none⟩,
      ⟨some 45, (Op.indexAddr 22 (Operand.tmp 43) (Operand.tmp 44)), none⟩,
      ⟨some 46, (Op.load 3 (Operand.tmp 45)), none⟩,
      ⟨some 47, (Op.binOp BinOp.geq 3 (Operand.tmp 46) (Operand.const (Value.int IntKind.i64 0)) 3), none⟩])
    (.cond (Operand.tmp 47)
      (.reg false [⟨some 49, (Op.move (Operand.tmp 0)), none⟩,
        ⟨some 50, (Op.move (Operand.tmp 13)), none⟩,
        ⟨some 51, (Op.indexAddr 22 (Operand.tmp 49) (Operand.tmp 50)), none⟩,
        ⟨some 52, (Op.load 3 (Operand.tmp 51)), none⟩,
        ⟨some 53, (Op.move (Operand.tmp 1)), none⟩,
        ⟨some 54, (Op.move (Operand.tmp 2)), none⟩,
        ⟨some 55, (Op.move (Operand.tmp 13)), none⟩,
        ⟨some 56, (Op.indexAddr 22 (Operand.tmp 54) (Operand.tmp 55)), none⟩,
        ⟨some 57, (Op.load 3 (Operand.tmp 56)), none⟩,
        ⟨some 58, (Op.indexAddr 22 (Operand.tmp 53) (Operand.tmp 57)), none⟩,
        ⟨some 59, (Op.load 3 (Operand.tmp 58)), none⟩,
        ⟨some 60, (Op.move (Operand.tmp 10)), none⟩,
        ⟨some 61, (Op.move (Operand.tmp 2)), none⟩,
        ⟨some 62, (Op.move (Operand.tmp 13)), none⟩,
        ⟨some 63, (Op.indexAddr 22 (Operand.tmp 61) (Operand.tmp 62)), none⟩,
        ⟨some 64, (Op.load 3 (Operand.tmp 63)), none⟩,
        ⟨some 65, (Op.indexAddr 22 (Operand.tmp 60) (Operand.tmp 64)), none⟩,
        ⟨some 66, (Op.load 3 (Operand.tmp 65)), none⟩,
        ⟨some 67, (Op.call { callee := (Callee.value (Operand.func 99)), args := #[(Operand.tmp 52), (Operand.tmp 59), (Operand.tmp 66)], argTypes := #[3, 3, 3] }), none⟩,
        ⟨some 48, (Op.move (Operand.tmp 67)), none⟩,
        ⟨some 68, (Op.extract (Operand.tmp 48) 0), none⟩,
        ⟨some 69, (Op.extract (Operand.tmp 48) 1), none⟩,
        ⟨some 14, (Op.assign (Operand.tmp 68)), none⟩,
        ⟨some 15, (Op.assign (Operand.tmp 69)), none⟩])
      .skip))
    (.reg false [⟨some 70, (Op.move (Operand.tmp 11)), none⟩,
      ⟨some 71, (Op.move (Operand.tmp 14)), none⟩,
      ⟨some 72, (Op.buildSlice 22 1 #[(0, (Operand.tmp 71))]), none⟩,
      ⟨some 73, (Op.call { callee := (Callee.builtin Builtin.append), args := #[(Operand.tmp 70), (Operand.tmp 72)], argTypes := #[22, 22] }), none⟩,
      ⟨some 74, (Op.move (Operand.tmp 12)), none⟩,
      ⟨some 75, (Op.move (Operand.tmp 15)), none⟩,
      ⟨some 76, (Op.move (Operand.tmp 14)), none⟩,
      ⟨some 77, (Op.binOp BinOp.sub 3 (Operand.tmp 75) (Operand.tmp 76) 3), none⟩,
      ⟨some 78, (Op.buildSlice 22 1 #[(0, (Operand.tmp 77))]), none⟩,
      ⟨some 79, (Op.call { callee := (Callee.builtin Builtin.append), args := #[(Operand.tmp 74), (Operand.tmp 78)], argTypes := #[22, 22] }), none⟩,
      ⟨some 11, (Op.assign (Operand.tmp 73)), none⟩,
      ⟨some 12, (Op.assign (Operand.tmp 79)), none⟩])))))
    (.reg false [⟨some 80, (Op.binOp BinOp.add 3 (Operand.tmp 36) (Operand.const (Value.int IntKind.i64 1)) 3), none⟩,
      ⟨some 36, (Op.move (Operand.tmp 80)), none⟩])))))))
  (.seq (.reg false [⟨some 81, (Op.move (Operand.tmp 11)), none⟩,
    ⟨some 82, (Op.move (Operand.tmp 12)), none⟩,
    ⟨some 8, (Op.assign (Operand.tmp 81)), none⟩,
    ⟨some 9, (Op.assign (Operand.tmp 82)), none⟩])
  .ret))))))
noncomputable def b40 : Code := Try.f40.body.getD .skip
theorem hb40 : Try.f40.body = some b40 := by kernel_rfl
theorem sh40 : shortC A40 b40 = c40 := by kernel_rfl
def rs40 : List ResultVar := [(ResultVar.tmp 8), (ResultVar.tmp 9)]
theorem hr40 : Try.f40.results.toList = rs40 := by kernel_rfl
/-! parquetry/parquetryref1.Place (2 parameters; calls 100 parquetry/parquetryref1.Size) -/
def A41 : Ann := { live := fun i => if i = 5 then [0, 1, 5, 6] else [], drop := fun i => false }
noncomputable def c41 : Cc :=
  (.seq (.reg false [⟨some 4, (Op.assign (Operand.const (Value.slice none 0 0))), none⟩])
  (.seq (.seq (.reg false [⟨some 7, (Op.move (Operand.tmp 1)), none⟩,
    ⟨some 8, (Op.binOp BinOp.lss 3 (Operand.tmp 7) (Operand.const (Value.int IntKind.i64 0)) 3), none⟩,
    ⟨some 9, (Op.move (Operand.tmp 8)), none⟩,
    ⟨some 10, (Op.move (Operand.tmp 1)), some (9, false)⟩,
    ⟨some 11, (Op.move (Operand.tmp 0)), some (9, false)⟩,
    ⟨some 12, (Op.call { callee := (Callee.value (Operand.func 100)), args := #[(Operand.tmp 11)], argTypes := #[22] }), some (9, false)⟩,
    ⟨some 13, (Op.binOp BinOp.geq 3 (Operand.tmp 10) (Operand.tmp 12) 3), some (9, false)⟩,
    ⟨some 14, (Op.pick (Operand.tmp 9) (Operand.const (Value.bool true)) (Operand.tmp 13)), none⟩])
  (.cond (Operand.tmp 14)
    (.seq (.reg false [⟨some 4, (Op.assign (Operand.const (Value.slice none 0 0))), none⟩])
    .ret)
    .skip))
  (.seq (.reg false [⟨some 15, (Op.move (Operand.tmp 0)), none⟩,
    ⟨some 16, (Op.call { callee := (Callee.builtin Builtin.len), args := #[(Operand.tmp 15)], argTypes := #[22] }), none⟩,
    ⟨some 17, (Op.makeSlice 22 (Operand.tmp 16) (Operand.tmp 16)), none⟩,
    ⟨some 5, (Op.assign (Operand.tmp 17)), none⟩])
  (.seq (.seq (.reg false [⟨some 18, (Op.move (Operand.tmp 0)), none⟩,
    ⟨some 19, (Op.call { callee := (Callee.builtin Builtin.len), args := #[(Operand.tmp 18)], argTypes := #[22] }), none⟩,
    ⟨some 20, (Op.binOp BinOp.sub 3 (Operand.tmp 19) (Operand.const (Value.int IntKind.i64 1)) 3), none⟩,
    ⟨some 6, (Op.assign (Operand.tmp 20)), none⟩])
  (.block 0 (.loop [0, 1, 5, 6] false
    (.seq (.seq (.reg false [⟨some 21, (Op.move (Operand.tmp 6)), none⟩,
      ⟨some 22, (Op.binOp BinOp.geq 3 (Operand.tmp 21) (Operand.const (Value.int IntKind.i64 0)) 3), none⟩])
    (.cond (Operand.tmp 22)
      .skip
      (.exit 0)))
    (.seq (.block 1 (.seq (.reg false [⟨some 25, (Op.move (Operand.tmp 5)), none⟩,
      ⟨some 26, (Op.move (Operand.tmp 6)), none⟩,
      ⟨some 27, (Op.move (Operand.tmp 1)), none⟩,
      ⟨some 28, (Op.move (Operand.tmp 0)), none⟩,
      ⟨some 29, (Op.move (Operand.tmp 6)), none⟩,
      ⟨some 30, (Op.indexAddr 22 (Operand.tmp 28) (Operand.tmp 29)), none⟩,
      ⟨some 31, (Op.load 3 (Operand.tmp 30)), none⟩,
      ⟨some 32, (Op.binOp BinOp.rem 3 (Operand.tmp 27) (Operand.tmp 31) 3), none⟩,
      ⟨some 33, (Op.indexAddr 22 (Operand.tmp 25) (Operand.tmp 26)), none⟩,
      ⟨none, (Op.store 3 (Operand.tmp 33) (Operand.tmp 32)), none⟩])
    (.reg false [⟨some 34, (Op.move (Operand.tmp 1)), none⟩,
      ⟨some 35, (Op.move (Operand.tmp 0)), none⟩,
      ⟨some 36, (Op.move (Operand.tmp 6)), none⟩,
      ⟨some 37, (Op.indexAddr 22 (Operand.tmp 35) (Operand.tmp 36)), none⟩,
      ⟨some 38, (Op.load 3 (Operand.tmp 37)), none⟩,
      ⟨some 39, (Op.binOp BinOp.quo 3 (Operand.tmp 34) (Operand.tmp 38) 3), none⟩,
      ⟨some 1, (Op.assign (Operand.tmp 39)), none⟩])))
    (.reg false [⟨some 23, (Op.move (Operand.tmp 6)), none⟩,
      ⟨some 24, (Op.binOp BinOp.sub 3 (Operand.tmp 23) (Operand.const (Value.int IntKind.i64 1)) 3), none⟩,
      ⟨some 6, (Op.assign (Operand.tmp 24)), none⟩]))))))
  (.seq (.reg false [⟨some 40, (Op.move (Operand.tmp 5)), none⟩,
    ⟨some 4, (Op.assign (Operand.tmp 40)), none⟩])
  .ret)))))
noncomputable def b41 : Code := Try.f41.body.getD .skip
theorem hb41 : Try.f41.body = some b41 := by kernel_rfl
theorem sh41 : shortC A41 b41 = c41 := by kernel_rfl
def rs41 : List ResultVar := [(ResultVar.tmp 4)]
theorem hr41 : Try.f41.results.toList = rs41 := by kernel_rfl
/-! parquetry/parquetryref1.Index (2 parameters; calls 101 parquetry/parquetryref1.Right) -/
def A42 : Ann := { live := fun i => if i = 5 then [0, 1, 5, 6] else [], drop := fun i => false }
noncomputable def c42 : Cc :=
  (.seq (.reg false [⟨some 4, (Op.assign (Operand.const (Value.int IntKind.i64 0))), none⟩])
  (.seq (.seq (.reg false [⟨some 7, (Op.move (Operand.tmp 0)), none⟩,
    ⟨some 8, (Op.call { callee := (Callee.value (Operand.func 101)), args := #[(Operand.tmp 7)], argTypes := #[22] }), none⟩,
    ⟨some 9, (Op.unOp UnOp.not 4 (Operand.tmp 8)), none⟩,
    ⟨some 10, (Op.move (Operand.tmp 9)), none⟩,
    ⟨some 11, (Op.move (Operand.tmp 1)), some (10, false)⟩,
    ⟨some 12, (Op.call { callee := (Callee.builtin Builtin.len), args := #[(Operand.tmp 11)], argTypes := #[22] }), some (10, false)⟩,
    ⟨some 13, (Op.move (Operand.tmp 0)), some (10, false)⟩,
    ⟨some 14, (Op.call { callee := (Callee.builtin Builtin.len), args := #[(Operand.tmp 13)], argTypes := #[22] }), some (10, false)⟩,
    ⟨some 15, (Op.binOp BinOp.neq 3 (Operand.tmp 12) (Operand.tmp 14) 3), some (10, false)⟩,
    ⟨some 16, (Op.pick (Operand.tmp 10) (Operand.const (Value.bool true)) (Operand.tmp 15)), none⟩])
  (.cond (Operand.tmp 16)
    (.seq (.reg false [⟨some 4, (Op.assign (Operand.const (Value.int IntKind.i64 (-1)))), none⟩])
    .ret)
    .skip))
  (.seq (.reg false [⟨some 5, (Op.assign (Operand.const (Value.int IntKind.i64 0))), none⟩])
  (.seq (.seq (.reg false [⟨some 6, (Op.assign (Operand.const (Value.int IntKind.i64 0))), none⟩])
  (.block 0 (.loop [0, 1, 5, 6] false
    (.seq (.seq (.reg false [⟨some 17, (Op.move (Operand.tmp 6)), none⟩,
      ⟨some 18, (Op.move (Operand.tmp 0)), none⟩,
      ⟨some 19, (Op.call { callee := (Callee.builtin Builtin.len), args := #[(Operand.tmp 18)], argTypes := #[22] }), none⟩,
      ⟨some 20, (Op.binOp BinOp.lss 3 (Operand.tmp 17) (Operand.tmp 19) 3), none⟩])
    (.cond (Operand.tmp 20)
      .skip
      (.exit 0)))
    (.seq (.block 1 (.seq (.seq (.reg false [⟨some 23, (Op.move (Operand.tmp 1)), none⟩,
      ⟨some 24, (Op.move (Operand.tmp 6)), none⟩,
      ⟨some 25, (Op.indexAddr 22 (Operand.tmp 23) (Operand.tmp 24)), none⟩,
      ⟨some 26, (Op.load 3 (Operand.tmp 25)), none⟩,
      ⟨some 27, (Op.binOp BinOp.lss 3 (Operand.tmp 26) (Operand.const (Value.int IntKind.i64 0)) 3), none⟩,
      ⟨some 28, (Op.move (Operand.tmp 27)), none⟩,
      ⟨some 29, (Op.move (Operand.tmp 1)), some (28, false)⟩,
      ⟨some 30, (Op.move (Operand.tmp 6)), some (28, false)⟩,
      ⟨some 31, (Op.indexAddr 22 (Operand.tmp 29) (Operand.tmp 30)), some (28, false)⟩,
      ⟨some 32, (Op.load 3 (Operand.tmp 31)), some (28, false)⟩,
      ⟨some 33, (Op.move (Operand.tmp 0)), some (28, false)⟩,
      ⟨some 34, (Op.move (Operand.tmp 6)), some (28, false)⟩,
      ⟨some 35, (Op.indexAddr 22 (Operand.tmp 33) (Operand.tmp 34)), some (28, false)⟩,
      ⟨some 36, (Op.load 3 (Operand.tmp 35)), some (28, false)⟩,
      ⟨some 37, (Op.binOp BinOp.geq 3 (Operand.tmp 32) (Operand.tmp 36) 3), some (28, false)⟩,
      ⟨some 38, (Op.pick (Operand.tmp 28) (Operand.const (Value.bool true)) (Operand.tmp 37)), none⟩])
    (.cond (Operand.tmp 38)
      (.seq (.reg false [⟨some 4, (Op.assign (Operand.const (Value.int IntKind.i64 (-1)))), none⟩])
      .ret)
      .skip))
    (.reg false [⟨some 39, (Op.move (Operand.tmp 5)), none⟩,
      ⟨some 40, (Op.move (Operand.tmp 0)), none⟩,
      ⟨some 41, (Op.move (Operand.tmp 6)), none⟩,
      ⟨some 42, (Op.indexAddr 22 (Operand.tmp 40) (Operand.tmp 41)), none⟩,
      ⟨some 43, (Op.load 3 (Operand.tmp 42)), none⟩,
      ⟨some 44, (Op.binOp BinOp.mul 3 (Operand.tmp 39) (Operand.tmp 43) 3), none⟩,
      ⟨some 45, (Op.move (Operand.tmp 1)), none⟩,
      ⟨some 46, (Op.move (Operand.tmp 6)), none⟩,
      ⟨some 47, (Op.indexAddr 22 (Operand.tmp 45) (Operand.tmp 46)), none⟩,
      ⟨some 48, (Op.load 3 (Operand.tmp 47)), none⟩,
      ⟨some 49, (Op.binOp BinOp.add 3 (Operand.tmp 44) (Operand.tmp 48) 3), none⟩,
      ⟨some 5, (Op.assign (Operand.tmp 49)), none⟩])))
    (.reg false [⟨some 21, (Op.move (Operand.tmp 6)), none⟩,
      ⟨some 22, (Op.binOp BinOp.add 3 (Operand.tmp 21) (Operand.const (Value.int IntKind.i64 1)) 3), none⟩,
      ⟨some 6, (Op.assign (Operand.tmp 22)), none⟩]))))))
  (.seq (.reg false [⟨some 50, (Op.move (Operand.tmp 5)), none⟩,
    ⟨some 4, (Op.assign (Operand.tmp 50)), none⟩])
  .ret)))))
noncomputable def b42 : Code := Try.f42.body.getD .skip
theorem hb42 : Try.f42.body = some b42 := by kernel_rfl
theorem sh42 : shortC A42 b42 = c42 := by kernel_rfl
def rs42 : List ResultVar := [(ResultVar.tmp 4)]
theorem hr42 : Try.f42.results.toList = rs42 := by kernel_rfl
/-! parquetry/parquetrylaw17.SplitFirsts (2 parameters; calls 23 parquetry/parquetryref14.Copies, 31 parquetry/parquetrylaw17.made, 36 parquetry/parquetrylaw17.known, 37 parquetry/split.All, 38 parquetry/split.Join, 39 parquetry/parquetryref1.Same, 40 parquetry/parquetryref14.Tile, 41 parquetry/parquetryref1.Place, 42 parquetry/parquetryref1.Index) -/
def A11 : Ann := { recs := fun i => if i = 21 then [(0, 8), (0, 14), (1, 8), (1, 14), (2, 8), (2, 14), (3, 8), (3, 14), (4, 8), (4, 14), (5, 8), (5, 14), (6, 8), (6, 14), (8, 7), (9, 7), (10, 7), (11, 7), (12, 7)] else [], live := fun i => if i = 8 then [5, 6, 7, 8, 10, 11, 12, 62, 63] else if i = 12 then [5, 6, 7, 8, 10, 11, 12, 13, 14, 62, 63, 70, 71] else [], drop := fun i => false }
/- Plain laws: numbers of places, there and back. -/
section
variable {s : List Int} (h4 : s.length ≤ 4) (hr : ∀ j : Nat, j < s.length → 1 ≤ nth s j ∧ nth s j ≤ 32)
include h4 hr
omit h4 in
end
/- Plain laws: a device's part, axis by axis; each place lies in some device's part. -/
theorem part_at {s sz sp : List Int} {d : Int} (h : mayCut s sz sp d) (i : Nat) (hi : i < s.length) :
    nth (fromL s sz sp d) i = (cutAt s sz (meshAt sz d) i (nth sp i)).1 ∧ nth (sizeL s sz sp d) i = w ((cutAt s sz (meshAt sz d) i (nth sp i)).2 - (cutAt s sz (meshAt sz d) i (nth sp i)).1) := by
  obtain ⟨hs, hsp, h0, h1⟩ := h
  obtain ⟨hl, hm, hr⟩ := specOK_lt hsp
  have hc := cutsGo_at s sz (meshAt sz d) sp sp.length i (by omega)
  constructor
  · unfold fromL cutsL
    rw [if_pos ⟨hs, hsp, h0, h1⟩]
    simp [nth, List.getD_eq_getElem?_getD, hc]
  · unfold sizeL cutsL
    rw [if_pos ⟨hs, hsp, h0, h1⟩]
    simp [nth, List.getD_eq_getElem?_getD, hc]
/-! ### each number lies in a part -/
/- Walks: the document's parts of a length, of a tensor; its places. -/
def widthR (n k : Int) : Int := if n < 0 ∨ k < 1 then 0 else if 0 < n.tmod k then w (w (n.tdiv k) + 1) else w (n.tdiv k)
def F140 (args : List AV) (_ : Hp) : Option AV := match args with
  | [.int .i64 n, .int .i64 k] => some (.int .i64 (widthR n k))
  | _ => none
theorem snd140 : Sound Try.prog 140 (FSem.pure F140).run := by
  refine sound_of hT (EOK_nil _) mixed A140 Try.func140 hb140 (by kernel_rfl) (by kernel_rfl) (by kernel_rfl) (by kernel_rfl) sh140 2 (by kernel_rfl) rs140 hr140 ?_
  intro args H r H' hw h
  obtain ⟨rfl, hv⟩ := pureAt h
  clear h
  unfold F140 at hv
  split at hv
  · rename_i n k
    cases hv
    have hk : ¬ k < 1 → ¬ k = 0 := by omega
    refine ⟨rfl, go ?_⟩
    unfold c140
    simp only [argSl]
    repeat' (first | apply goSeq | apply goReg | apply goSeqN | apply goSeqR | apply goSkip | apply goRet | apply goNil | apply goBlock | apply goExit | apply goBlkN | apply goBlkR | apply goBlkE | apply goSeqE | apply goLoopR | apply goLoopE | refine xOp ?_ | refine xOp0 ?_ | refine xYes ?_ | refine xNo ?_ | refine xNoU ?_ | refine xIfT ?_ | refine xIfF ?_ | refine xIf ?_ ?_ | refine xSplit ?_ ?_ | refine xIfQ ?_ ?_ | refine xSplitQ ?_ ?_ | refine xBlkX ?_ | intro _)
    all_goals (refine goEnd hw (Pre.refl _) (by simp) (by simp [rs140]; exact rfl) rfl ?_; simp [widthR, *])
  · cases hv
@[simp] theorem F140_at (n k : Int) (H : Hp) : F140 [.int .i64 n, .int .i64 k] H = some (.int .i64 (widthR n k)) := rfl
def cutR1 (n W i : Int) : Int := if W = 0 ∨ i ≤ w (n.tdiv W) then (if w (i * W) ≤ n then w (i * W) else n) else n
def cutR2 (n W f : Int) : Int := if W ≤ w (n - f) then w (f + W) else n
def cutR (n k i : Int) : Int × Int := if n < 0 ∨ k < 1 ∨ i < 0 ∨ k ≤ i then (0, 0) else (cutR1 n (widthR n k) i, cutR2 n (widthR n k) (cutR1 n (widthR n k) i))
def F99 (args : List AV) (_ : Hp) : Option AV := match args with
  | [.int .i64 n, .int .i64 k, .int .i64 i] => some (.tup [.int .i64 (cutR n k i).1, .int .i64 (cutR n k i).2])
  | _ => none
set_option maxHeartbeats 1000000 in
theorem snd99 : Sound Try.prog 99 (FSem.pure F99).run := by
  refine sound_of hT (EOK_cons snd140 (EOK_nil _)) mixed A99 Try.func99 hb99 (by kernel_rfl) (by kernel_rfl) (by kernel_rfl) (by kernel_rfl) sh99 3 (by kernel_rfl) rs99 hr99 ?_
  intro args H r H' hw h
  obtain ⟨rfl, hv⟩ := pureAt h
  clear h
  unfold F99 at hv
  split at hv
  · rename_i n k i
    cases hv
    refine ⟨rfl, go ?_⟩
    unfold c99
    simp only [argSl]
    by_cases hc : n < 0 ∨ k < 1 ∨ i < 0 ∨ k ≤ i
    · have e : cutR n k i = (0, 0) := by simp [cutR, hc]
      rw [e]
      clear e
      rcases hc with hc | hc | hc | hc
      all_goals (repeat' (first | apply goSeq | apply goReg | apply goSeqN | apply goSeqR | apply goSkip | apply goRet | apply goNil | apply goBlock | apply goExit | apply goBlkN | apply goBlkR | apply goBlkE | apply goSeqE | apply goLoopR | apply goLoopE | refine xOp ?_ | refine xOp0 ?_ | refine xYes ?_ | refine xNo ?_ | refine xNoU ?_ | refine xIfT ?_ | refine xIfF ?_ | refine xIf ?_ ?_ | refine xSplit ?_ ?_ | refine xIfQ ?_ ?_ | refine xSplitQ ?_ ?_ | refine xBlkX ?_ | intro _))
      all_goals (first | (refine goEnd hw (Pre.refl _) (by simp) (by simp [rs99]; exact rfl) rfl rfl; done) | (exfalso; simp at *; omega))
    · have e : cutR n k i = (cutR1 n (widthR n k) i, cutR2 n (widthR n k) (cutR1 n (widthR n k) i)) := by simp only [cutR, if_neg hc]
      rw [e]
      clear e
      have h1 : ¬ n < 0 := by omega
      have h2 : ¬ k < 1 := by omega
      have h3 : ¬ i < 0 := by omega
      have h4 : ¬ k ≤ i := by omega
      clear hc
      generalize hW : widthR n k = W at *
      repeat' (first | apply goSeq | apply goReg | apply goSeqN | apply goSeqR | apply goSkip | apply goRet | apply goNil | apply goBlock | apply goExit | apply goBlkN | apply goBlkR | apply goBlkE | apply goSeqE | apply goLoopR | apply goLoopE | refine xOp ?_ | refine xOp0 ?_ | refine xYes ?_ | refine xNo ?_ | refine xNoU ?_ | refine xIfT ?_ | refine xIfF ?_ | refine xIf ?_ ?_ | refine xSplit ?_ ?_ | refine xIfQ ?_ ?_ | refine xSplitQ ?_ ?_ | refine xBlkX ?_ | intro _)
      all_goals (refine goEnd hw (Pre.refl _) (by simp) (by simp [rs99]; exact rfl) rfl ?_; simp [cutR1, cutR2, *])
  · cases hv
def cutSame (n k i : Int) : Bool := decide (cutR n k i = cut n k i)
theorem cutR_fin : ((List.range 33).all fun n => (List.range 8).all fun k => (List.range (k + 1)).all fun i => cutSame (n : Nat) ((k + 1 : Nat) : Int) (i : Nat)) = true := by decide +kernel
theorem cutR_eq {n k i : Int} (hn : 0 ≤ n ∧ n ≤ 32) (hk : 1 ≤ k ∧ k ≤ 8) (hi : 0 ≤ i ∧ i < k) : cutR n k i = cut n k i := by
  obtain ⟨n, rfl⟩ : ∃ m : Nat, n = m := ⟨n.toNat, by omega⟩
  obtain ⟨k, rfl⟩ : ∃ m : Nat, k = m + 1 := ⟨(k - 1).toNat, by omega⟩
  obtain ⟨i, rfl⟩ : ∃ m : Nat, i = m := ⟨i.toNat, by omega⟩
  have h1 := List.all_eq_true.1 cutR_fin n (by simp; omega)
  have h2 := List.all_eq_true.1 h1 k (by simp; omega)
  have h3 := List.all_eq_true.1 h2 i (by simp; omega)
  simpa [cutSame] using h3
@[simp] theorem F99_at (n k i : Int) (H : Hp) : F99 [.int .i64 n, .int .i64 k, .int .i64 i] H = some (.tup [.int .i64 (cutR n k i).1, .int .i64 (cutR n k i).2]) := rfl
/-- May a shape be parted so? -/
def mayS (s sz sp : List Int) : Bool := shapeOK s && meshOK sz && specOK sz sp s.length
def F85 (args : List AV) (H : Hp) : Option AV := match args with
  | [a, b, c] => (ints H a).bind fun s => (ints H b).bind fun sz => (ints H c).map fun sp => .bool (mayS s sz sp)
  | _ => none
theorem snd85 : Sound Try.prog 85 (FSem.pure F85).run := by
  refine sound_of hT (EOK_cons snd56 (EOK_cons snd58 (EOK_cons snd101 (EOK_nil _)))) mixed A85 Try.func85 hb85 (by kernel_rfl) (by kernel_rfl) (by kernel_rfl) (by kernel_rfl) sh85 3 (by kernel_rfl) rs85 hr85 ?_
  intro args H r H' hw h
  obtain ⟨rfl, hv⟩ := pureAt h
  clear h
  unfold F85 at hv
  split at hv
  · rename_i a b c
    obtain ⟨s, hs, hv⟩ := Option.bind_eq_some_iff.1 hv
    obtain ⟨sz, hsz, hv⟩ := Option.bind_eq_some_iff.1 hv
    obtain ⟨sp, hsp, hv⟩ := Option.map_eq_some_iff.1 hv
    cases hv
    have hl := alenS_ints hs
    simp only [← alen22] at hl
    have e1 := r1OK_eq s
    have e2 := rOK_eq sz
    have e3 := rSpecOK_eq sz sp s.length
    refine ⟨rfl, go ?_⟩
    unfold c85
    simp only [argSl]
    unfold mayS
    rcases h1 : shapeOK s with _ | _
    · repeat' (first | apply goSeq | apply goReg | apply goSeqN | apply goSeqR | apply goSkip | apply goRet | apply goNil | apply goBlock | apply goExit | apply goBlkN | apply goBlkR | apply goBlkE | apply goSeqE | apply goLoopR | apply goLoopE | refine xOp ?_ | refine xOp0 ?_ | refine xYes ?_ | refine xNo ?_ | refine xNoU ?_ | refine xIfT ?_ | refine xIfF ?_ | refine xIf ?_ ?_ | refine xSplit ?_ ?_ | refine xIfQ ?_ ?_ | refine xSplitQ ?_ ?_ | refine xBlkX ?_ | intro _)
      exact goEnd hw (Pre.refl _) (by simp) (by simp [rs85]; exact rfl) rfl (by simp)
    rcases h2 : meshOK sz with _ | _
    · repeat' (first | apply goSeq | apply goReg | apply goSeqN | apply goSeqR | apply goSkip | apply goRet | apply goNil | apply goBlock | apply goExit | apply goBlkN | apply goBlkR | apply goBlkE | apply goSeqE | apply goLoopR | apply goLoopE | refine xOp ?_ | refine xOp0 ?_ | refine xYes ?_ | refine xNo ?_ | refine xNoU ?_ | refine xIfT ?_ | refine xIfF ?_ | refine xIf ?_ ?_ | refine xSplit ?_ ?_ | refine xIfQ ?_ ?_ | refine xSplitQ ?_ ?_ | refine xBlkX ?_ | intro _)
      exact goEnd hw (Pre.refl _) (by simp) (by simp [rs85]; exact rfl) rfl (by simp)
    repeat' (first | apply goSeq | apply goReg | apply goSeqN | apply goSeqR | apply goSkip | apply goRet | apply goNil | apply goBlock | apply goExit | apply goBlkN | apply goBlkR | apply goBlkE | apply goSeqE | apply goLoopR | apply goLoopE | refine xOp ?_ | refine xOp0 ?_ | refine xYes ?_ | refine xNo ?_ | refine xNoU ?_ | refine xIfT ?_ | refine xIfF ?_ | refine xIf ?_ ?_ | refine xSplit ?_ ?_ | refine xIfQ ?_ ?_ | refine xSplitQ ?_ ?_ | refine xBlkX ?_ | intro _)
    exact goEnd hw (Pre.refl _) (by simp) (by simp [rs85]; exact rfl) rfl (by simp)
  · cases hv
@[simp] theorem F85_at (a b c : AV) (H : Hp) : F85 [a, b, c] H = (ints H a).bind fun s => (ints H b).bind fun sz => (ints H c).map fun sp => .bool (mayS s sz sp) := rfl
/-! ### the document's places -/
set_option maxHeartbeats 1000000 in
theorem snd42 : Sound Try.prog 42 (FSem.pure F96).run := by
  refine sound_of hT (EOK_cons snd101 (EOK_nil _)) mixed A42 Try.func42 hb42 (by kernel_rfl) (by kernel_rfl) (by kernel_rfl) (by kernel_rfl) sh42 2 (by kernel_rfl) rs42 hr42 ?_
  intro args H r H' hw h
  obtain ⟨rfl, hv⟩ := pureAt h
  clear h
  unfold F96 at hv
  split at hv
  · rename_i a v
    obtain ⟨sz, hsz, hv⟩ := Option.bind_eq_some_iff.1 hv
    obtain ⟨l, hl, hv⟩ := Option.map_eq_some_iff.1 hv
    cases hv
    have hlen := alenS_ints hl
    have hb := ints_len hl
    have hlen2 := alenS_ints hsz
    have hix := aidxS_ints hl .i64
    have hld := aload_nth T3 rfl hl
    have hix2 := aidxS_ints hsz .i64
    have hld2 := aload_nth T3 rfl hsz
    have e1 := r1OK_eq sz
    refine ⟨rfl, go ?_⟩
    unfold c42
    simp only [argSl]
    simp only [← aidx22, ← alen22] at hix hlen hix2 hlen2
    rcases hm : shapeOK sz with _ | _
    · repeat' (first | apply goSeq | apply goReg | apply goSeqN | apply goSeqR | apply goSkip | apply goRet | apply goNil | apply goBlock | apply goExit | apply goBlkN | apply goBlkR | apply goBlkE | apply goSeqE | apply goLoopR | apply goLoopE | refine xOp ?_ | refine xOp0 ?_ | refine xYes ?_ | refine xNo ?_ | refine xNoU ?_ | refine xIfT ?_ | refine xIfF ?_ | refine xIf ?_ ?_ | refine xSplit ?_ ?_ | refine xIfQ ?_ ?_ | refine xSplitQ ?_ ?_ | refine xBlkX ?_ | intro _)
      refine goEnd hw (Pre.refl _) (by simp) (by simp [rs42]; exact rfl) rfl ?_
      simp [idxL, hm]
    · by_cases hll : l.length = sz.length
      · have hres : idxL sz l = ofGo 0 sz l := by simp [idxL, hm, hll]
        have hll' : (sz.length : Int) = l.length := by omega
        rw [hres]
        rw [hll'] at hix2 hld2 hlen2
        have hll'' : l.length = sz.length := hll
        clear hll hll' hres
        replace hll'' := Hide.mk hll''
        repeat' (first | apply goSeq | apply goReg | apply goSeqN | apply goSeqR | apply goSkip | apply goRet | apply goNil | apply goBlock | apply goExit | apply goBlkN | apply goBlkR | apply goBlkE | apply goSeqE | apply goLoopR | apply goLoopE | refine xOp ?_ | refine xOp0 ?_ | refine xYes ?_ | refine xNo ?_ | refine xNoU ?_ | refine xIfT ?_ | refine xIfF ?_ | refine xIf ?_ ?_ | refine xSplit ?_ ?_ | refine xIfQ ?_ ?_ | refine xSplitQ ?_ ?_ | refine xBlkX ?_ | intro _)
        refine goLoop (fun m s1 H1 => H1 = H' ∧ ∃ (i : Nat) (d : Int), m = l.length - i ∧ i ≤ l.length ∧ get s1 0 = a ∧ get s1 1 = v ∧ get s1 5 = .int .i64 d ∧ get s1 6 = .int .i64 i ∧ ofGo d (sz.drop i) (l.drop i) = ofGo 0 sz l) l.length ?_ ?_
        · exact ⟨rfl, 0, 0, rfl, Nat.zero_le _, rfl, rfl, rfl, rfl, by simp⟩
        · rintro m s1 H1 ⟨rfl, i, d, hmm, hi, g1, g2, g3, g4, hgo⟩
          simp only [cut_cons, cut_nil, g1, g2, g3, g4]
          clear g1 g2 g3 g4
          have hi0 : (0 : Int) ≤ i := Int.natCast_nonneg i
          have hw1 : w ((i : Int) + 1) = ((i + 1 : Nat) : Int) := w_id (by omega)
          have hd := fun h => drop_nth l i h
          have hd2 : i < l.length → sz.drop i = nth sz i :: sz.drop (i + 1) := fun h => drop_nth sz i (by have := hll''.out; omega)
          have hnil : ¬ i < l.length → l.drop i = [] := fun h => List.drop_of_length_le (by omega)
          replace hgo := Hide.mk hgo
          replace hd := Hide.mk hd
          replace hd2 := Hide.mk hd2
          replace hnil := Hide.mk hnil
          repeat' (first | apply goSeq | apply goReg | apply goSeqN | apply goSeqR | apply goSkip | apply goRet | apply goNil | apply goBlock | apply goExit | apply goBlkN | apply goBlkR | apply goBlkE | apply goSeqE | apply goLoopR | apply goLoopE | refine xOp ?_ | refine xOp0 ?_ | refine xYes ?_ | refine xNo ?_ | refine xNoU ?_ | refine xIfT ?_ | refine xIfF ?_ | refine xIf ?_ ?_ | refine xSplit ?_ ?_ | refine xIfQ ?_ ?_ | refine xSplitQ ?_ ?_ | refine xBlkX ?_ | intro _)
          all_goals replace hgo := hgo.out
          all_goals replace hd := hd.out
          all_goals replace hd2 := hd2.out
          all_goals (try simp only [Bool.not_eq_true', decide_eq_false_iff_not, Bool.not_eq_false', decide_eq_true_eq] at *)
          all_goals first
            | (refine goEnd hw (Pre.refl _) (by simp) (by simp [rs42]; exact rfl) rfl ?_; rw [← hgo, hd (by assumption), hd2 (by assumption)]; simp [ofGo, *]; done)
            | (refine goEnd hw (Pre.refl _) (by simp) (by simp [rs42]; exact rfl) rfl ?_; rw [← hgo, hnil.out (by assumption)]; cases sz.drop i <;> simp [ofGo]; done)
            | (refine goLoopN (l.length - (i + 1)) (by omega) ⟨rfl, i + 1, _, rfl, by omega, rfl, rfl, rfl, rfl, ?_⟩; rw [← hgo, hd (by assumption), hd2 (by assumption)]; simp [ofGo, *])
      · repeat' (first | apply goSeq | apply goReg | apply goSeqN | apply goSeqR | apply goSkip | apply goRet | apply goNil | apply goBlock | apply goExit | apply goBlkN | apply goBlkR | apply goBlkE | apply goSeqE | apply goLoopR | apply goLoopE | refine xOp ?_ | refine xOp0 ?_ | refine xYes ?_ | refine xNo ?_ | refine xNoU ?_ | refine xIfT ?_ | refine xIfF ?_ | refine xIf ?_ ?_ | refine xSplit ?_ ?_ | refine xIfQ ?_ ?_ | refine xSplitQ ?_ ?_ | refine xBlkX ?_ | intro _)
        · refine goEnd hw (Pre.refl _) (by simp) (by simp [rs42]; exact rfl) rfl ?_
          simp [idxL, hm, hll]
        · rename_i hc
          simp at hc
          omega
  · cases hv
set_option maxHeartbeats 1000000 in
theorem snd41 : Sound Try.prog 41 (FSem.eff F95).run := by
  refine sound_of hT (EOK_cons snd100 (EOK_nil _)) mixed A41 Try.func41 hb41 (by kernel_rfl) (by kernel_rfl) (by kernel_rfl) (by kernel_rfl) sh41 2 (by kernel_rfl) rs41 hr41 ?_
  intro args H r H' hw h
  have hv : F95 args H = some (r, H') := h
  clear h
  unfold F95 at hv
  split at hv
  · rename_i v d
    obtain ⟨l, hl, hv⟩ := Option.map_eq_some_iff.1 hv
    have hlen := alenS_ints hl
    have hb := ints_len hl
    have hix := aidxS_ints hl .i64
    have hld := fun {H1 : Hp} (he : Pre H H1) => aload_nth T3 rfl (ints_ext he hl)
    refine ⟨rfl, go ?_⟩
    unfold c41
    simp only [argSl]
    simp only [← aidx22, ← alen22] at hix hlen
    replace hv := Hide.mk hv
    repeat' (first | apply goSeq | apply goReg | apply goSeqN | apply goSeqR | apply goSkip | apply goRet | apply goNil | apply goBlock | apply goExit | apply goBlkN | apply goBlkR | apply goBlkE | apply goSeqE | apply goLoopR | apply goLoopE | refine xOp ?_ | refine xOp0 ?_ | refine xYes ?_ | refine xNo ?_ | refine xNoU ?_ | refine xIfT ?_ | refine xIfF ?_ | refine xIf ?_ ?_ | refine xSplit ?_ ?_ | refine xIfQ ?_ ?_ | refine xSplitQ ?_ ?_ | refine xBlkX ?_ | intro _)
    · rename_i h1
      replace hv := hv.out
      rw [if_pos (.inl h1)] at hv
      exact goEndS (l := []) hw (Ext.refl hw) (.inl ⟨rfl, rfl⟩) (by simp) (by simp [rs41]) rfl hv
    · rename_i h1 h2
      replace hv := hv.out
      rw [if_pos (.inr h2)] at hv
      exact goEndS (l := []) hw (Ext.refl hw) (.inl ⟨rfl, rfl⟩) (by simp) (by simp [rs41]) rfl hv
    · rename_i h1 h2
      replace hv := hv.out
      rw [if_neg (by omega)] at hv
      have hm : shapeOK l = true := by
        rcases hmm : shapeOK l with _ | _
        · exfalso; simp [sizeOf, hmm] at h2; omega
        · rfl
      obtain ⟨h3, hpos⟩ := shape_pos hm (by have : sizeOf l = prodW 1 l := by simp [sizeOf, hm]
                                            omega)
      obtain ⟨u, H1, e, ho, he⟩ := make_own (Ext.refl hw) l.length (by omega)
      refine goOp (v := u) (H' := H1) rfl (by simp; exact e) ?_
      replace hv := Hide.mk hv
      repeat' (first | apply goSeq | apply goReg | apply goSeqN | apply goSeqR | apply goSkip | apply goRet | apply goNil | apply goBlock | apply goExit | apply goBlkN | apply goBlkR | apply goBlkE | apply goSeqE | apply goLoopR | apply goLoopE | refine xOp ?_ | refine xOp0 ?_ | refine xYes ?_ | refine xNo ?_ | refine xNoU ?_ | refine xIfT ?_ | refine xIfF ?_ | refine xIf ?_ ?_ | refine xSplit ?_ ?_ | refine xIfQ ?_ ?_ | refine xSplitQ ?_ ?_ | refine xBlkX ?_ | intro _)
      have hwl : w ((l.length : Int) - 1) = (l.length : Int) - 1 := w_id (by omega)
      rw [hwl]
      refine goLoop (fun m s1 H1 => Ext H H1 ∧ ∃ (d1 : Int) (out : List Int) (u : AV), m ≤ l.length ∧ get s1 0 = v ∧ get s1 1 = .int .i64 d1 ∧ get s1 5 = u ∧ get s1 6 = .int .i64 ((m : Int) - 1) ∧ OwnF H H1 u out ∧ out.length = l.length ∧ atW l m d1 out = meshAt l d) l.length ?_ ?_
      · exact ⟨he, d, _, u, Nat.le_refl _, rfl, rfl, rfl, rfl, ho, by simp, rfl⟩
      · clear he ho e hwl h1 h2 hm
        rintro m s1 H1 ⟨he, d1, out, u, hi, g1, g2, g3, g4, ho, hol, hgo⟩
        have hixu := aidxS_ints (ints_of_ownF ho (by omega)) .i64
        simp only [← aidx22] at hixu
        have hl1 := hld he.pre
        cases m with
        | zero =>
          simp only [cut_cons, cut_nil, g1, g2, g3, g4]
          clear g1 g2 g3 g4
          replace ho := Hide.mk ho
          replace hgo := Hide.mk hgo
          repeat' (first | apply goSeq | apply goReg | apply goSeqN | apply goSeqR | apply goSkip | apply goRet | apply goNil | apply goBlock | apply goExit | apply goBlkN | apply goBlkR | apply goBlkE | apply goSeqE | apply goLoopR | apply goLoopE | refine xOp ?_ | refine xOp0 ?_ | refine xYes ?_ | refine xNo ?_ | refine xNoU ?_ | refine xIfT ?_ | refine xIfF ?_ | refine xIf ?_ ?_ | refine xSplit ?_ ?_ | refine xIfQ ?_ ?_ | refine xSplitQ ?_ ?_ | refine xBlkX ?_ | intro _)
          refine goEndF hw he ho.out (by simp) (by simp [rs41]) rfl ?_
          rw [← hv.out, ← hgo.out]
          rfl
        | succ m =>
          rw [show (((m + 1 : Nat) : Int) - 1) = (m : Int) by omega] at g4
          simp only [cut_cons, cut_nil, g1, g2, g3, g4]
          clear g1 g2 g3 g4
          have hm0 : (0 : Int) ≤ m := Int.natCast_nonneg m
          have hml : m < l.length := by omega
          have hne : ¬ nth l m = 0 := by have := hpos m hml; omega
          have hwm : w ((m : Int) - 1) = (m : Int) - 1 := w_id (by omega)
          replace ho := Hide.mk ho
          replace hgo := Hide.mk hgo
          repeat' (first | apply goSeq | apply goReg | apply goSeqN | apply goSeqR | apply goSkip | apply goRet | apply goNil | apply goBlock | apply goExit | apply goBlkN | apply goBlkR | apply goBlkE | apply goSeqE | apply goLoopR | apply goLoopE | refine xOp ?_ | refine xOp0 ?_ | refine xYes ?_ | refine xNo ?_ | refine xNoU ?_ | refine xIfT ?_ | refine xIfF ?_ | refine xIf ?_ ?_ | refine xSplit ?_ ?_ | refine xIfQ ?_ ?_ | refine xSplitQ ?_ ?_ | refine xBlkX ?_ | intro _)
          obtain ⟨H2, e, ho', he'⟩ := store_own hw he ho.out m (by omega) (d1.tmod (nth l m))
          have hl2 := hld he'.pre
          refine goOp0 (v := .bad) (H' := H2) rfl (by simp [e]) ?_
          replace ho' := Hide.mk ho'
          clear e
          repeat' (first | apply goSeq | apply goReg | apply goSeqN | apply goSeqR | apply goSkip | apply goRet | apply goNil | apply goBlock | apply goExit | apply goBlkN | apply goBlkR | apply goBlkE | apply goSeqE | apply goLoopR | apply goLoopE | refine xOp ?_ | refine xOp0 ?_ | refine xYes ?_ | refine xNo ?_ | refine xNoU ?_ | refine xIfT ?_ | refine xIfF ?_ | refine xIf ?_ ?_ | refine xSplit ?_ ?_ | refine xIfQ ?_ ?_ | refine xSplitQ ?_ ?_ | refine xBlkX ?_ | intro _)
          exact goLoopN m (by omega) ⟨he', _, _, u, by omega, rfl, rfl, rfl, rfl, ho'.out, by simp [hol], by rw [← hgo.out]; rfl⟩
  · cases hv
/-! ### a list that grows beside others -/
theorem trG_S (l : List Int) : trG l.length 1 (trI l) = trS l := by
  unfold trG trS
  by_cases h : l = []
  · simp [h]
  · rw [if_neg (by simpa using h), if_neg h]
theorem rep_appI {c : Nat} {H : Hp} {l : List Int} {v : AV} {bs : List (Nat × Nat)} (hw : Wf H) (hc : c ≤ H.c) (h : Rep c H (trS l) v bs) (hl : l.length < 1099511627776) (hnd : bs.Nodup) (n : Int) :
    ∃ v' H' b' ver', aapp T false 22 22 v (.sl H.bs.length H.c 0 1 1 true) (H.new [.int .i64 n]) = some (v', H') ∧ Rep c H' (trS (l ++ [n])) v' [(b', ver')] ∧ H.c ≤ ver' ∧ ver' < H'.c ∧ (∀ b1 v1, (b1, v1) ∉ bs → Keeps H H' b1 v1) ∧ (∀ H0, Wf H0 → Ext H0 H → H0.c ≤ c → Ext H0 H') := by
  obtain ⟨v', H', bs', bk, b', ver', e1, r1, hbs, _, _, h1, h2, hk, hx⟩ := rep_app (t := 22) (e := 3) (es := 1) (n := l.length) (cs := trI l) (xt := [.at (.int .i64 n)]) (xs := [.int .i64 n]) (bx := []) D22 T3 rfl (by decide) hw hc (by rw [trG_S]; exact h)
    (by simp only [Reps, Rep]; exact ⟨_, _, [], [], rfl, ⟨rfl, rfl, rfl⟩, ⟨rfl, rfl⟩, rfl⟩) (by simp [trI]) rfl (by decide) (by simp [maxBytes]; omega) hnd (by simp)
  have e2 : trG (l.length + 1) 1 (trI l ++ [.at (.int .i64 n)]) = trS (l ++ [n]) := by
    rw [← trG_S]; simp [trI]
  rw [e2] at r1
  have hbs1 : bs' = [(b', ver')] := by
    rcases rep_S.1 r1 with ⟨h0, _⟩ | ⟨b, ver, _, _, _, _, h0⟩
    · simp at h0
    · rw [h0] at hbs ⊢
      have hlen := congrArg List.length hbs
      have hbk : bk = [] := by simpa using hlen.symm
      subst hbk
      simpa using hbs
  subst hbs1
  exact ⟨v', H', b', ver', e1, r1, h1, h2, hk, hx⟩
theorem rep_tup2 {c : Nat} {H : Hp} {a b : Tr} {x y : AV} {b1 b2 : List (Nat × Nat)} (h1 : Rep c H a x b1) (h2 : Rep c H b y b2) : Rep c H (.tup [a, b]) (.tup [x, y]) (b1 ++ b2) := by
  simp only [Rep, Reps]
  exact ⟨_, rfl, x, _, b1, b2, rfl, h1, ⟨y, _, b2, [], rfl, h2, ⟨rfl, rfl⟩, by simp⟩, rfl⟩
theorem mayS_cut {s sz sp : List Int} {d : Int} (h : mayS s sz sp = true) (h0 : 0 ≤ d) (h1 : d < devs sz) : mayCut s sz sp d := by
  simp only [mayS, Bool.and_eq_true] at h
  exact ⟨h.1.1, h.2, h0, h1⟩
theorem not_mayS {s sz sp : List Int} {d : Int} (h : mayS s sz sp = false) : ¬ mayCut s sz sp d := by
  rintro ⟨h1, h2, _⟩
  have h3 := (specOK_lt h2).2.1
  simp [mayS, h1, h2, h3] at h
theorem no_cut {s sz sp : List Int} {d : Int} (h : ¬ mayCut s sz sp d) : fromL s sz sp d = [] ∧ sizeL s sz sp d = [] := by
  unfold fromL sizeL cutsL
  rw [if_neg h]
  exact ⟨rfl, rfl⟩
/-- Where a device's part begins, how long it is. -/
noncomputable def tileTr (s sz sp : List Int) (d : Int) : Tr := .tup [trS (fromL s sz sp d), trS (sizeL s sz sp d)]
noncomputable def F40 (args : List AV) (H : Hp) : Option (AV × Hp) := match args with
  | [a, b, c, .int .i64 d] => (ints H a).bind fun s => (ints H b).bind fun sz => (ints H c).map fun sp => mk (tileTr s sz sp d) H
  | _ => none
set_option maxHeartbeats 2000000 in
theorem snd40 : Sound Try.prog 40 (FSem.eff F40).run := by
  refine sound_of hT (EOK_cons snd20 (EOK_cons snd85 (EOK_cons snd98 (EOK_cons snd99 (EOK_nil _))))) mixed A40 Try.func40 hb40 (by kernel_rfl) (by kernel_rfl) (by kernel_rfl) (by kernel_rfl) sh40 4 (by kernel_rfl) rs40 hr40 ?_
  intro args H r H' hw h
  have hv : F40 args H = some (r, H') := h
  clear h
  unfold F40 at hv
  split at hv
  · rename_i a b c d
    obtain ⟨s, hs, hv⟩ := Option.bind_eq_some_iff.1 hv
    obtain ⟨sz, hsz, hv⟩ := Option.bind_eq_some_iff.1 hv
    obtain ⟨sp, hsp, hv⟩ := Option.map_eq_some_iff.1 hv
    have hvv := Hide.mk hv
    clear hv
    have hrd := rDevs_eq sz
    refine ⟨rfl, go ?_⟩
    unfold c40
    simp only [argSl]
    have hnil : ¬ mayCut s sz sp d → mk (.tup [.at .nilS, .at .nilS]) H = (r, H') := fun hn => by
      have h0 := no_cut hn
      have := hvv.out
      simpa [tileTr, h0.1, h0.2, trS] using this
    have hrn : Rep H.c H (.tup [.at .nilS, .at .nilS]) (xret [.nilS, .nilS]) [] := rep_tup2 (b1 := []) (b2 := []) (by simp [Rep, old]) (by simp [Rep, old])
    replace hnil := Hide.mk hnil
    replace hrn := Hide.mk hrn
    rcases h1 : mayS s sz sp with _ | _
    · repeat' (first | apply goSeq | apply goReg | apply goSeqN | apply goSeqR | apply goSkip | apply goRet | apply goNil | apply goBlock | apply goExit | apply goBlkN | apply goBlkR | apply goBlkE | apply goSeqE | apply goLoopR | apply goLoopE | refine xOp ?_ | refine xOp0 ?_ | refine xYes ?_ | refine xNo ?_ | refine xNoU ?_ | refine xIfT ?_ | refine xIfF ?_ | refine xIf ?_ ?_ | refine xSplit ?_ ?_ | refine xIfQ ?_ ?_ | refine xSplitQ ?_ ?_ | refine xBlkX ?_ | intro _)
      exact goEndR (vs := [.nilS, .nilS]) (bs := []) (d := H.c) hw (Pre.refl _) hrn.out (Fresh.nil _ _) (by simp) (by simp [rs40]) rfl (hnil.out (not_mayS h1))
    by_cases h2 : d < 0
    · repeat' (first | apply goSeq | apply goReg | apply goSeqN | apply goSeqR | apply goSkip | apply goRet | apply goNil | apply goBlock | apply goExit | apply goBlkN | apply goBlkR | apply goBlkE | apply goSeqE | apply goLoopR | apply goLoopE | refine xOp ?_ | refine xOp0 ?_ | refine xYes ?_ | refine xNo ?_ | refine xNoU ?_ | refine xIfT ?_ | refine xIfF ?_ | refine xIf ?_ ?_ | refine xSplit ?_ ?_ | refine xIfQ ?_ ?_ | refine xSplitQ ?_ ?_ | refine xBlkX ?_ | intro _)
      exact goEndR (vs := [.nilS, .nilS]) (bs := []) (d := H.c) hw (Pre.refl _) hrn.out (Fresh.nil _ _) (by simp) (by simp [rs40]) rfl (hnil.out fun hc => by have := hc.2.2.1; omega)
    by_cases h3 : devs sz ≤ d
    · repeat' (first | apply goSeq | apply goReg | apply goSeqN | apply goSeqR | apply goSkip | apply goRet | apply goNil | apply goBlock | apply goExit | apply goBlkN | apply goBlkR | apply goBlkE | apply goSeqE | apply goLoopR | apply goLoopE | refine xOp ?_ | refine xOp0 ?_ | refine xYes ?_ | refine xNo ?_ | refine xNoU ?_ | refine xIfT ?_ | refine xIfF ?_ | refine xIf ?_ ?_ | refine xSplit ?_ ?_ | refine xIfQ ?_ ?_ | refine xSplitQ ?_ ?_ | refine xBlkX ?_ | intro _)
      exact goEndR (vs := [.nilS, .nilS]) (bs := []) (d := H.c) hw (Pre.refl _) hrn.out (Fresh.nil _ _) (by simp) (by simp [rs40]) rfl (hnil.out fun hc => by have := hc.2.2.2; omega)
    have hc := mayS_cut h1 (by omega) (by omega : d < devs sz)
    obtain ⟨hl1, hm, hri⟩ := specOK_lt hc.2.1
    obtain ⟨hfl, hql, _⟩ := part_rng hc
    have hr := (shapeOK_rng hc.1).2
    have h4 := (shapeOK_rng hc.1).1
    have hmi := (meshOK_pos hm).2
    have hm3 := (meshOK_pos hm).1
    have hati := fun j hj => meshAt_in hm hc.2.2.1 hc.2.2.2 j hj
    have hpa := fun i hi => part_at hc i hi
    have hal := meshAt_len sz d
    have hFt : tileTr s sz sp d = .tup [trS (fromL s sz sp d), trS (sizeL s sz sp d)] := rfl
    generalize fromL s sz sp d = FR at *
    generalize sizeL s sz sp d = SZ at *
    have x1 := mkF_ext hw (meshAt sz d)
    have hai := ints_of_ownF (mkF_own H (meshAt sz d)) (by omega)
    generalize hAT : meshAt sz d = AT at *
    have e98 : F98 [b, .int .i64 d] H = some (mkF H AT) := by
      simp only [F98_at, hsz, Option.map_some]
      rw [if_neg (by omega), hAT]
    have hs1 := ints_ext x1.pre hs
    have hsz1 := ints_ext x1.pre hsz
    have hsp1 := ints_ext x1.pre hsp
    generalize mkF H AT = r1 at *
    obtain ⟨av, H1⟩ := r1
    simp only at x1 hai hs1 hsz1 hsp1
    have hls := alenS_ints hs1
    simp only [← alen22] at hls
    have hix := aidxS_ints hs1 .i64
    have hixz := aidxS_ints hsz1 .i64
    have hixp := aidxS_ints hsp1 .i64
    have hixa := aidxS_ints hai .i64
    simp only [← aidx22] at hix hixz hixp hixa
    have hw1 := x1.wf
    replace hr := Hide.mk hr
    replace hmi := Hide.mk hmi
    replace hati := Hide.mk hati
    replace hri := Hide.mk hri
    replace hpa := Hide.mk hpa
    replace hc := Hide.mk hc
    replace x1 := Hide.mk x1
    replace hs1 := Hide.mk hs1
    replace hsz1 := Hide.mk hsz1
    replace hsp1 := Hide.mk hsp1
    replace hai := Hide.mk hai
    replace hFt := Hide.mk hFt
    replace hl1 := Hide.mk hl1
    replace hal := Hide.mk hal
    clear hAT hnil hrn
    have h3' : d < devs sz := by omega
    repeat' (first | apply goSeq | apply goReg | apply goSeqN | apply goSeqR | apply goSkip | apply goRet | apply goNil | apply goBlock | apply goExit | apply goBlkN | apply goBlkR | apply goBlkE | apply goSeqE | apply goLoopR | apply goLoopE | refine xOp ?_ | refine xOp0 ?_ | refine xYes ?_ | refine xNo ?_ | refine xNoU ?_ | refine xIfT ?_ | refine xIfF ?_ | refine xIf ?_ ?_ | refine xSplit ?_ ?_ | refine xIfQ ?_ ?_ | refine xSplitQ ?_ ?_ | refine xBlkX ?_ | intro _)
    refine goLoop (fun m s1 G => ∃ (i : Nat) (u z : AV) (bu bz : List (Nat × Nat)), m = s.length - i ∧ i ≤ s.length ∧ get s1 0 = a ∧ get s1 1 = b ∧ get s1 2 = c ∧ get s1 10 = av ∧ get s1 11 = u ∧ get s1 12 = z ∧ get s1 35 = .int .i64 s.length ∧ get s1 36 = .int .i64 i ∧ Ext H1 G ∧ Rep H1.c G (trS (FR.take i)) u bu ∧ Rep H1.c G (trS (SZ.take i)) z bz ∧ Fresh H1.c G.c (bu ++ bz)) s.length ?_ ?_
    · exact ⟨0, .nilS, .nilS, [], [], rfl, Nat.zero_le _, rfl, rfl, rfl, rfl, rfl, rfl, rfl, rfl, Ext.refl hw1, by simp [trS, Rep, old], by simp [trS, Rep, old], Fresh.nil _ _⟩
    rintro m s1 G ⟨i, u, z, bu, bz, hmm, hi, g1, g2, g3, g4, g5, g6, g7, g8, hx, ru, rz, hf⟩
    simp only [cut_cons, cut_nil, g1, g2, g3, g4, g5, g6, g7, g8]
    clear g1 g2 g3 g4 g5 g6 g7 g8
    have hi0 : (0 : Int) ≤ i := Int.natCast_nonneg i
    have hwi : w ((i : Int) + 1) = ((i + 1 : Nat) : Int) := w_id (by omega)
    by_cases his : i < s.length
    · have his' : (i : Int) < s.length := by omega
      have hl1' := hl1.out
      have hal' := hal.out
      obtain ⟨p1, p2⟩ := hpa.out i his
      have hrs := hr.out i his
      have hrp := hri.out i (by omega)
      have hsG := ints_ext hx.pre hs1.out
      have hzG := ints_ext hx.pre hsz1.out
      have hpG := ints_ext hx.pre hsp1.out
      have haG := ints_ext hx.pre hai.out
      have is := (hix i).trans (if_pos (by omega))
      have ip := (hixp i).trans (if_pos (by omega))
      have ls := aload_nth T3 rfl hsG i hi0 (by omega)
      have lp := aload_nth T3 rfl hpG i hi0 (by omega)
      have hdis := List.nodup_append.1 hf.1
      have ef := take_nth FR i (by omega)
      have ez := take_nth SZ i (by omega)
      obtain ⟨A, B, hAB⟩ : ∃ A B, cutAt s sz AT i (nth sp i) = (A, B) := ⟨_, _, rfl⟩
      rw [hAB] at p1 p2
      simp only at p1 p2
      rw [p1] at ef
      rw [p2] at ez
      obtain ⟨u', G1, bu', vu', e1, ru1, hv1, hv1', k1, hx1⟩ := rep_appI hx.wf hx.c ru (by simp; omega) hdis.1 A
      have x1G := hx1 H1 hw1 hx (Nat.le_refl _)
      have rz1 := Rep.keep _ (fun p hp => k1 p.1 p.2 (fun hm => hdis.2.2 p hm p hp rfl)) rz
      obtain ⟨z', G2, bz', vz', e2, rz2, hv2, hv2', k2, hx2⟩ := rep_appI x1G.wf x1G.c rz1 (by simp; omega) hdis.2.1 (w (B - A))
      have x2G := hx2 H1 hw1 x1G (Nat.le_refl _)
      have ru2 := Rep.keep _ (fun p hp => k2 p.1 p.2 (fun hm => by have := (hf.2 p (by simp [hm])).2; simp at hp; subst hp; simp only at this; omega)) ru1
      rw [← ef] at ru2
      rw [← ez] at rz2
      have hf2 : Fresh H1.c G2.c ([(bu', vu')] ++ [(bz', vz')]) := (Fresh.one (c := H1.c) (d := G1.c) (by have := hx.c; omega) hv1').app (Fresh.one hv2 hv2') x1G.c (by omega)
      clear hsG hpG ru rz rz1 ru1 k1 k2 hx1 hx2 x1G hdis hf p1 p2 ef ez hix hixp hrs hv1 hv1' hv2 hv2' hx
      replace x2G := Hide.mk x2G
      replace ru2 := Hide.mk ru2
      replace rz2 := Hide.mk rz2
      replace hf2 := Hide.mk hf2
      unfold cutAt at hAB
      by_cases hk : 0 ≤ nth sp i
      · rw [if_pos hk] at hAB
        obtain ⟨k, hk'⟩ : ∃ k : Nat, nth sp i = k := ⟨(nth sp i).toNat, by omega⟩
        rw [hk'] at hAB hk hrp lp
        have hkz : k < sz.length := by omega
        have iz := (hixz k).trans (if_pos (by omega))
        have ia := (hixa k).trans (if_pos (by omega))
        have lz := aload_nth T3 rfl hzG k (by omega) (by omega)
        have la := aload_nth T3 rfl haG k (by omega) (by omega)
        have hcR := cutR_eq (hr.out i his) (hmi.out k hkz) (hati.out k hkz)
        rw [hAB] at hcR
        have hk'' : ¬ (k : Int) < 0 := by omega
        clear hAB hzG haG hixz hixa hrp hk' hl1' hal'
        repeat' (first | apply goSeq | apply goReg | apply goSeqN | apply goSeqR | apply goSkip | apply goRet | apply goNil | apply goBlock | apply goExit | apply goBlkN | apply goBlkR | apply goBlkE | apply goSeqE | apply goLoopR | apply goLoopE | refine xOp ?_ | refine xOp0 ?_ | refine xYes ?_ | refine xNo ?_ | refine xNoU ?_ | refine xIfT ?_ | refine xIfF ?_ | refine xIf ?_ ?_ | refine xSplit ?_ ?_ | refine xIfQ ?_ ?_ | refine xSplitQ ?_ ?_ | refine xBlkX ?_ | intro _)
        exact goLoopN (s.length - (i + 1)) (by omega) ⟨i + 1, u', z', _, _, rfl, by omega, rfl, rfl, rfl, rfl, rfl, rfl, rfl, rfl, x2G.out, ru2.out, rz2.out, hf2.out⟩
      · rw [if_neg hk] at hAB
        obtain ⟨rfl, rfl⟩ := Prod.mk.inj hAB
        simp only [Int.sub_zero] at e2
        clear hAB hzG haG hixz hixa hrp hl1' hal'
        repeat' (first | apply goSeq | apply goReg | apply goSeqN | apply goSeqR | apply goSkip | apply goRet | apply goNil | apply goBlock | apply goExit | apply goBlkN | apply goBlkR | apply goBlkE | apply goSeqE | apply goLoopR | apply goLoopE | refine xOp ?_ | refine xOp0 ?_ | refine xYes ?_ | refine xNo ?_ | refine xNoU ?_ | refine xIfT ?_ | refine xIfF ?_ | refine xIf ?_ ?_ | refine xSplit ?_ ?_ | refine xIfQ ?_ ?_ | refine xSplitQ ?_ ?_ | refine xBlkX ?_ | intro _)
        exact goLoopN (s.length - (i + 1)) (by omega) ⟨i + 1, u', z', _, _, rfl, by omega, rfl, rfl, rfl, rfl, rfl, rfl, rfl, rfl, x2G.out, ru2.out, rz2.out, hf2.out⟩
    · have hiE : i = s.length := by omega
      subst hiE
      have his' : ¬ ((s.length : Int) < s.length) := by omega
      rw [List.take_of_length_le (by omega)] at ru rz
      replace hx := Hide.mk hx
      replace ru := Hide.mk ru
      replace rz := Hide.mk rz
      replace hf := Hide.mk hf
      repeat' (first | apply goSeq | apply goReg | apply goSeqN | apply goSeqR | apply goSkip | apply goRet | apply goNil | apply goBlock | apply goExit | apply goBlkN | apply goBlkR | apply goBlkE | apply goSeqE | apply goLoopR | apply goLoopE | refine xOp ?_ | refine xOp0 ?_ | refine xYes ?_ | refine xNo ?_ | refine xNoU ?_ | refine xIfT ?_ | refine xIfF ?_ | refine xIf ?_ ?_ | refine xSplit ?_ ?_ | refine xIfQ ?_ ?_ | refine xSplitQ ?_ ?_ | refine xBlkX ?_ | intro _)
      refine goEndR (vs := [u, z]) (bs := bu ++ bz) (d := G.c) (t := .tup [trS FR, trS SZ]) hw (x1.out.pre.trans hx.out.pre) (rep_tup2 ?_ ?_) (hf.out.wide x1.out.c (Nat.le_refl _)) (by simp) (by simp [rs40]) rfl (hFt.out ▸ hvv.out)
      · exact rep_down _ (c0 := 0) (okT_S 0 FR) (Nat.zero_le _) x1.out.c ru.out
      · exact rep_down _ (c0 := 0) (okT_S 0 SZ) (Nat.zero_le _) x1.out.c rz.out
  · cases hv
/- Functions in short form. -/
/-! parquetry/parquetryref1.Tensor (1 parameters; calls 100 parquetry/parquetryref1.Size, 101 parquetry/parquetryref1.Right) -/
def A84 : Ann := { drop := fun i => false }
noncomputable def c84 : Cc :=
  (.seq (.reg false [⟨some 1, (Op.box 40 (Operand.tmp 0)), none⟩,
    ⟨some 2, (Op.assign (Operand.const (Value.bool false))), none⟩])
  (.seq (.reg false [⟨some 3, (Op.fieldAddr 40 (Operand.tmp 1) 0), none⟩,
    ⟨some 4, (Op.load 22 (Operand.tmp 3)), none⟩,
    ⟨some 5, (Op.call { callee := (Callee.value (Operand.func 101)), args := #[(Operand.tmp 4)], argTypes := #[22] }), none⟩,
    ⟨some 6, (Op.move (Operand.tmp 5)), none⟩,
    ⟨some 7, (Op.fieldAddr 40 (Operand.tmp 1) 1), some (6, true)⟩,
    ⟨some 8, (Op.load 38 (Operand.tmp 7)), some (6, true)⟩,
    ⟨some 9, (Op.call { callee := (Callee.builtin Builtin.len), args := #[(Operand.tmp 8)], argTypes := #[38] }), some (6, true)⟩,
    ⟨some 10, (Op.fieldAddr 40 (Operand.tmp 1) 0), some (6, true)⟩,
    ⟨some 11, (Op.load 22 (Operand.tmp 10)), some (6, true)⟩,
    ⟨some 12, (Op.call { callee := (Callee.value (Operand.func 100)), args := #[(Operand.tmp 11)], argTypes := #[22] }), some (6, true)⟩,
    ⟨some 13, (Op.binOp BinOp.eql 3 (Operand.tmp 9) (Operand.tmp 12) 3), some (6, true)⟩,
    ⟨some 14, (Op.pick (Operand.tmp 6) (Operand.tmp 13) (Operand.const (Value.bool false))), none⟩,
    ⟨some 2, (Op.assign (Operand.tmp 14)), none⟩])
  .ret))
noncomputable def b84 : Code := Try.f84.body.getD .skip
theorem hb84 : Try.f84.body = some b84 := by kernel_rfl
theorem sh84 : shortC A84 b84 = c84 := by kernel_rfl
def rs84 : List ResultVar := [(ResultVar.tmp 2)]
theorem hr84 : Try.f84.results.toList = rs84 := by kernel_rfl
/-! parquetry/parquetryref4.number (2 parameters; calls 42 parquetry/parquetryref1.Index) -/
def A163 : Ann := { drop := fun i => false }
noncomputable def c163 : Cc :=
  (.seq (.reg false [⟨some 2, (Op.box 40 (Operand.tmp 0)), none⟩,
    ⟨some 4, (Op.assign (Operand.const (Value.int IntKind.i64 0))), none⟩])
  (.seq (.reg false [⟨some 5, (Op.fieldAddr 40 (Operand.tmp 2) 1), none⟩,
    ⟨some 6, (Op.load 38 (Operand.tmp 5)), none⟩,
    ⟨some 7, (Op.fieldAddr 40 (Operand.tmp 2) 0), none⟩,
    ⟨some 8, (Op.load 22 (Operand.tmp 7)), none⟩,
    ⟨some 9, (Op.move (Operand.tmp 1)), none⟩,
    ⟨some 10, (Op.call { callee := (Callee.value (Operand.func 42)), args := #[(Operand.tmp 8), (Operand.tmp 9)], argTypes := #[22, 22] }), none⟩,
    ⟨some 11, (Op.indexAddr 38 (Operand.tmp 6) (Operand.tmp 10)), none⟩,
    ⟨some 12, (Op.load 2 (Operand.tmp 11)), none⟩,
    ⟨some 4, (Op.assign (Operand.tmp 12)), none⟩])
  .ret))
noncomputable def b163 : Code := Try.f163.body.getD .skip
theorem hb163 : Try.f163.body = some b163 := by kernel_rfl
theorem sh163 : shortC A163 b163 = c163 := by kernel_rfl
def rs163 : List ResultVar := [(ResultVar.tmp 4)]
theorem hr163 : Try.f163.results.toList = rs163 := by kernel_rfl
/-! parquetry/parquetryref4.Slice (3 parameters; calls 41 parquetry/parquetryref1.Place, 70 parquetry/parquetryref1.Fill, 84 parquetry/parquetryref1.Tensor, 163 parquetry/parquetryref4.number) -/
def A135 : Ann := { live := fun i => if i = 6 then [1, 2, 3, 6, 33, 34] else if i = 13 then [1, 2, 3, 6, 9, 84, 85] else if i = 17 then [1, 2, 3, 6, 9, 10, 11, 84, 85, 92, 93] else [], drop := fun i => false }
noncomputable def c135 : Cc :=
  (.seq (.reg false [⟨some 3, (Op.box 40 (Operand.tmp 0)), none⟩,
    ⟨some 6, (Op.alloc 40), none⟩,
    ⟨some 7, (Op.assign (Operand.const (Value.int IntKind.i64 0))), none⟩])
  (.seq (.seq (.reg false [⟨some 13, (Op.load 40 (Operand.tmp 3)), none⟩,
    ⟨some 14, (Op.call { callee := (Callee.value (Operand.func 84)), args := #[(Operand.tmp 13)], argTypes := #[40] }), none⟩,
    ⟨some 15, (Op.unOp UnOp.not 4 (Operand.tmp 14)), none⟩])
  (.cond (Operand.tmp 15)
    (.seq (.reg false [⟨some 16, (Op.build 40 #[]), none⟩,
      ⟨none, (Op.store 40 (Operand.tmp 6) (Operand.tmp 16)), none⟩,
      ⟨some 7, (Op.assign (Operand.const (Value.int IntKind.i64 13))), none⟩])
    .ret)
    .skip))
  (.seq (.seq (.reg false [⟨some 17, (Op.move (Operand.tmp 1)), none⟩,
    ⟨some 18, (Op.call { callee := (Callee.builtin Builtin.len), args := #[(Operand.tmp 17)], argTypes := #[22] }), none⟩,
    ⟨some 19, (Op.fieldAddr 40 (Operand.tmp 3) 0), none⟩,
    ⟨some 20, (Op.load 22 (Operand.tmp 19)), none⟩,
    ⟨some 21, (Op.call { callee := (Callee.builtin Builtin.len), args := #[(Operand.tmp 20)], argTypes := #[22] }), none⟩,
    ⟨some 22, (Op.binOp BinOp.neq 3 (Operand.tmp 18) (Operand.tmp 21) 3), none⟩,
    ⟨some 23, (Op.move (Operand.tmp 22)), none⟩,
    ⟨some 24, (Op.move (Operand.tmp 2)), some (23, false)⟩,
    ⟨some 25, (Op.call { callee := (Callee.builtin Builtin.len), args := #[(Operand.tmp 24)], argTypes := #[22] }), some (23, false)⟩,
    ⟨some 26, (Op.fieldAddr 40 (Operand.tmp 3) 0), some (23, false)⟩,
    ⟨some 27, (Op.load 22 (Operand.tmp 26)), some (23, false)⟩,
    ⟨some 28, (Op.call { callee := (Callee.builtin Builtin.len), args := #[(Operand.tmp 27)], argTypes := #[22] }), some (23, false)⟩,
    ⟨some 29, (Op.binOp BinOp.neq 3 (Operand.tmp 25) (Operand.tmp 28) 3), some (23, false)⟩,
    ⟨some 30, (Op.pick (Operand.tmp 23) (Operand.const (Value.bool true)) (Operand.tmp 29)), none⟩])
  (.cond (Operand.tmp 30)
    (.seq (.reg false [⟨some 31, (Op.build 40 #[]), none⟩,
      ⟨none, (Op.store 40 (Operand.tmp 6) (Operand.tmp 31)), none⟩,
      ⟨some 7, (Op.assign (Operand.const (Value.int IntKind.i64 1))), none⟩])
    .ret)
    .skip))
  (.seq (.seq (.reg false [⟨some 32, (Op.move (Operand.tmp 1)), none⟩,
    ⟨some 33, (Op.call { callee := (Callee.builtin Builtin.len), args := #[(Operand.tmp 32)], argTypes := #[22] }), none⟩,
    ⟨some 34, (Op.move (Operand.const (Value.int IntKind.i64 0))), none⟩])
  (.block 0 (.loop [1, 2, 3, 6, 33, 34] false
    (.seq (.reg false [⟨some 35, (Op.binOp BinOp.lss 3 (Operand.tmp 34) (Operand.tmp 33) 3), none⟩])
    (.seq (.cond (Operand.tmp 35)
      .skip
      (.exit 0))
    (.seq (.block 1 (.seq (.reg false [⟨some 36, (Op.move (Operand.tmp 34)), none⟩,
      ⟨some 8, (Op.assign (Operand.tmp 36)), none⟩])
    (.seq (.reg false [⟨some 37, (Op.move (Operand.tmp 1)), none⟩,
      ⟨some 38, (Op.move (Operand.tmp 8)), none⟩,
      ⟨some 39, (Op.indexAddr 22 (Operand.tmp 37) (Operand.tmp 38)), none⟩,
      ⟨some 40, (Op.load 3 (Operand.tmp 39)), none⟩,
      ⟨some 41, (Op.binOp BinOp.lss 3 (Operand.tmp 40) (Operand.const (Value.int IntKind.i64 0)) 3), none⟩,
      ⟨some 42, (Op.move (Operand.tmp 41)), none⟩,
      ⟨some 43, (Op.move (Operand.tmp 2)), some (42, false)⟩,
      ⟨some 44, (Op.move (Operand.tmp 8)), some (42, false)⟩,
      ⟨some 45, (Op.indexAddr 22 (Operand.tmp 43) (Operand.tmp 44)), some (42, false)⟩,
      ⟨some 46, (Op.load 3 (Operand.tmp 45)), some (42, false)⟩,
      ⟨some 47, (Op.binOp BinOp.lss 3 (Operand.tmp 46) (Operand.const (Value.int IntKind.i64 0)) 3), some (42, false)⟩,
      ⟨some 48, (Op.pick (Operand.tmp 42) (Operand.const (Value.bool true)) (Operand.tmp 47)), none⟩,
      ⟨some 49, (Op.move (Operand.tmp 48)), none⟩,
      ⟨some 50, (Op.move (Operand.tmp 1)), some (49, false)⟩,
      ⟨some 51, (Op.move (Operand.tmp 8)), some (49, false)⟩,
      ⟨some 52, (Op.indexAddr 22 (Operand.tmp 50) (Operand.tmp 51)), some (49, false)⟩,
      ⟨some 53, (Op.load 3 (Operand.tmp 52)), some (49, false)⟩,
      ⟨some 54, (Op.fieldAddr 40 (Operand.tmp 3) 0), some (49, false)⟩,
      ⟨some 55, (Op.load 22 (Operand.tmp 54)), some (49, false)⟩,
      ⟨some 56, (Op.move (Operand.tmp 8)), some (49, false)⟩,
      ⟨some 57, (Op.indexAddr 22 (Operand.tmp 55) (Operand.tmp 56)), some (49, false)⟩,
      ⟨some 58, (Op.load 3 (Operand.tmp 57)), some (49, false)⟩,
      ⟨some 59, (Op.binOp BinOp.gtr 3 (Operand.tmp 53) (Operand.tmp 58) 3), some (49, false)⟩,
      ⟨some 60, (Op.pick (Operand.tmp 49) (Operand.const (Value.bool true)) (Operand.tmp 59)), none⟩,
      ⟨some 61, (Op.move (Operand.tmp 60)), none⟩,
      ⟨some 62, (Op.move (Operand.tmp 2)), some (61, false)⟩,
      ⟨some 63, (Op.move (Operand.tmp 8)), some (61, false)⟩,
      ⟨some 64, (Op.indexAddr 22 (Operand.tmp 62) (Operand.tmp 63)), some (61, false)⟩,
      ⟨some 65, (Op.load 3 (Operand.tmp 64)), some (61, false)⟩,
      ⟨some 66, (Op.fieldAddr 40 (Operand.tmp 3) 0), some (61, false)⟩,
      ⟨some 67, (Op.load 22 (Operand.tmp 66)), some (61, false)⟩,
      ⟨some 68, (Op.move (Operand.tmp 8)), some (61, false)⟩,
      ⟨some 69, (Op.indexAddr 22 (Operand.tmp 67) (Operand.tmp 68)), some (61, false)⟩,
      ⟨some 70, (Op.load 3 (Operand.tmp 69)), some (61, false)⟩,
      ⟨some 71, (Op.move (Operand.tmp 1)), some (61, false)⟩,
      ⟨some 72, (Op.move (Operand.tmp 8)), some (61, false)⟩,
      ⟨some 73, (Op.indexAddr 22 (Operand.tmp 71) (Operand.tmp 72)), some (61, false)⟩,
      ⟨some 74, (Op.load 3 (Operand.tmp 73)), some (61, false)⟩,
      ⟨some 75, (Op.binOp BinOp.sub 3 (Operand.tmp 70) (Operand.tmp 74) 3), some (61, false)⟩,
      ⟨some 76, (Op.binOp BinOp.gtr 3 (Operand.tmp 65) (Operand.tmp 75) 3), some (61, false)⟩,
      ⟨some 77, (Op.pick (Operand.tmp 61) (Operand.const (Value.bool true)) (Operand.tmp 76)), none⟩])
    (.cond (Operand.tmp 77)
      (.seq (.reg false [⟨some 78, (Op.build 40 #[]), none⟩,
        ⟨none, (Op.store 40 (Operand.tmp 6) (Operand.tmp 78)), none⟩,
        ⟨some 7, (Op.assign (Operand.const (Value.int IntKind.i64 1))), none⟩])
      .ret)
      .skip))))
    (.reg false [⟨some 79, (Op.binOp BinOp.add 3 (Operand.tmp 34) (Operand.const (Value.int IntKind.i64 1)) 3), none⟩,
      ⟨some 34, (Op.move (Operand.tmp 79)), none⟩])))))))
  (.seq (.reg false [⟨some 80, (Op.move (Operand.tmp 2)), none⟩,
    ⟨some 81, (Op.call { callee := (Callee.value (Operand.func 70)), args := #[(Operand.tmp 80), (Operand.const (Value.int IntKind.i64 0))], argTypes := #[22, 2] }), none⟩,
    ⟨some 9, (Op.alloc 40), none⟩,
    ⟨none, (Op.store 40 (Operand.tmp 9) (Operand.tmp 81)), none⟩])
  (.seq (.seq (.reg false [⟨some 82, (Op.fieldAddr 40 (Operand.tmp 9) 1), none⟩,
    ⟨some 83, (Op.load 38 (Operand.tmp 82)), none⟩,
    ⟨some 84, (Op.call { callee := (Callee.builtin Builtin.len), args := #[(Operand.tmp 83)], argTypes := #[38] }), none⟩,
    ⟨some 85, (Op.move (Operand.const (Value.int IntKind.i64 0))), none⟩])
  (.block 2 (.loop [1, 2, 3, 6, 9, 84, 85] false
    (.seq (.reg false [⟨some 86, (Op.binOp BinOp.lss 3 (Operand.tmp 85) (Operand.tmp 84) 3), none⟩])
    (.seq (.cond (Operand.tmp 86)
      .skip
      (.exit 2))
    (.seq (.block 3 (.seq (.reg false [⟨some 87, (Op.move (Operand.tmp 85)), none⟩,
      ⟨some 10, (Op.assign (Operand.tmp 87)), none⟩])
    (.seq (.reg false [⟨some 88, (Op.move (Operand.tmp 2)), none⟩,
      ⟨some 89, (Op.move (Operand.tmp 10)), none⟩,
      ⟨some 90, (Op.call { callee := (Callee.value (Operand.func 41)), args := #[(Operand.tmp 88), (Operand.tmp 89)], argTypes := #[22, 3] }), none⟩,
      ⟨some 11, (Op.assign (Operand.tmp 90)), none⟩])
    (.seq (.seq (.reg false [⟨some 91, (Op.move (Operand.tmp 11)), none⟩,
      ⟨some 92, (Op.call { callee := (Callee.builtin Builtin.len), args := #[(Operand.tmp 91)], argTypes := #[22] }), none⟩,
      ⟨some 93, (Op.move (Operand.const (Value.int IntKind.i64 0))), none⟩])
    (.block 4 (.loop [1, 2, 3, 6, 9, 10, 11, 84, 85, 92, 93] false
      (.seq (.reg false [⟨some 94, (Op.binOp BinOp.lss 3 (Operand.tmp 93) (Operand.tmp 92) 3), none⟩])
      (.seq (.cond (Operand.tmp 94)
        .skip
        (.exit 4))
      (.seq (.block 5 (.seq (.reg false [⟨some 95, (Op.move (Operand.tmp 93)), none⟩,
        ⟨some 12, (Op.assign (Operand.tmp 95)), none⟩])
      (.reg false [⟨some 96, (Op.move (Operand.tmp 11)), none⟩,
        ⟨some 97, (Op.move (Operand.tmp 12)), none⟩,
        ⟨some 98, (Op.move (Operand.tmp 11)), none⟩,
        ⟨some 99, (Op.move (Operand.tmp 12)), none⟩,
        ⟨some 100, (Op.indexAddr 22 (Operand.tmp 98) (Operand.tmp 99)), none⟩,
        ⟨some 101, (Op.load 3 (Operand.tmp 100)), none⟩,
        ⟨some 102, (Op.move (Operand.tmp 1)), none⟩,
        ⟨some 103, (Op.move (Operand.tmp 12)), none⟩,
        ⟨some 104, (Op.indexAddr 22 (Operand.tmp 102) (Operand.tmp 103)), none⟩,
        ⟨some 105, (Op.load 3 (Operand.tmp 104)), none⟩,
        ⟨some 106, (Op.binOp BinOp.add 3 (Operand.tmp 101) (Operand.tmp 105) 3), none⟩,
        ⟨some 107, (Op.indexAddr 22 (Operand.tmp 96) (Operand.tmp 97)), none⟩,
        ⟨none, (Op.store 3 (Operand.tmp 107) (Operand.tmp 106)), none⟩])))
      (.reg false [⟨some 108, (Op.binOp BinOp.add 3 (Operand.tmp 93) (Operand.const (Value.int IntKind.i64 1)) 3), none⟩,
        ⟨some 93, (Op.move (Operand.tmp 108)), none⟩])))))))
    (.reg false [⟨some 109, (Op.fieldAddr 40 (Operand.tmp 9) 1), none⟩,
      ⟨some 110, (Op.load 38 (Operand.tmp 109)), none⟩,
      ⟨some 111, (Op.move (Operand.tmp 10)), none⟩,
      ⟨some 112, (Op.load 40 (Operand.tmp 3)), none⟩,
      ⟨some 113, (Op.move (Operand.tmp 11)), none⟩,
      ⟨some 114, (Op.call { callee := (Callee.value (Operand.func 163)), args := #[(Operand.tmp 112), (Operand.tmp 113)], argTypes := #[40, 22] }), none⟩,
      ⟨some 115, (Op.indexAddr 38 (Operand.tmp 110) (Operand.tmp 111)), none⟩,
      ⟨none, (Op.store 2 (Operand.tmp 115) (Operand.tmp 114)), none⟩])))))
    (.reg false [⟨some 116, (Op.binOp BinOp.add 3 (Operand.tmp 85) (Operand.const (Value.int IntKind.i64 1)) 3), none⟩,
      ⟨some 85, (Op.move (Operand.tmp 116)), none⟩])))))))
  (.seq (.reg false [⟨some 117, (Op.load 40 (Operand.tmp 9)), none⟩,
    ⟨none, (Op.store 40 (Operand.tmp 6) (Operand.tmp 117)), none⟩,
    ⟨some 7, (Op.assign (Operand.const (Value.int IntKind.i64 0))), none⟩])
  .ret)))))))
noncomputable def b135 : Code := Try.f135.body.getD .skip
theorem hb135 : Try.f135.body = some b135 := by kernel_rfl
theorem sh135 : shortC A135 b135 = c135 := by kernel_rfl
def rs135 : List ResultVar := [(ResultVar.cell 6 40), (ResultVar.tmp 7)]
theorem hr135 : Try.f135.results.toList = rs135 := by kernel_rfl
/-! parquetry/parquetryref14.Part (4 parameters; calls 20 parquetry/parquetryref14.Devices, 40 parquetry/parquetryref14.Tile, 84 parquetry/parquetryref1.Tensor, 85 parquetry/parquetryref14.may, 135 parquetry/parquetryref4.Slice) -/
def A82 : Ann := { drop := fun i => false }
noncomputable def c82 : Cc :=
  (.seq (.reg false [⟨some 4, (Op.box 40 (Operand.tmp 0)), none⟩,
    ⟨some 8, (Op.alloc 40), none⟩,
    ⟨some 9, (Op.assign (Operand.const (Value.int IntKind.i64 0))), none⟩])
  (.seq (.seq (.reg false [⟨some 12, (Op.load 40 (Operand.tmp 4)), none⟩,
    ⟨some 13, (Op.call { callee := (Callee.value (Operand.func 84)), args := #[(Operand.tmp 12)], argTypes := #[40] }), none⟩,
    ⟨some 14, (Op.unOp UnOp.not 4 (Operand.tmp 13)), none⟩])
  (.cond (Operand.tmp 14)
    (.seq (.reg false [⟨some 15, (Op.build 40 #[]), none⟩,
      ⟨none, (Op.store 40 (Operand.tmp 8) (Operand.tmp 15)), none⟩,
      ⟨some 9, (Op.assign (Operand.const (Value.int IntKind.i64 13))), none⟩])
    .ret)
    .skip))
  (.seq (.seq (.reg false [⟨some 16, (Op.fieldAddr 40 (Operand.tmp 4) 0), none⟩,
    ⟨some 17, (Op.load 22 (Operand.tmp 16)), none⟩,
    ⟨some 18, (Op.move (Operand.tmp 1)), none⟩,
    ⟨some 19, (Op.move (Operand.tmp 2)), none⟩,
    ⟨some 20, (Op.call { callee := (Callee.value (Operand.func 85)), args := #[(Operand.tmp 17), (Operand.tmp 18), (Operand.tmp 19)], argTypes := #[22, 22, 22] }), none⟩,
    ⟨some 21, (Op.unOp UnOp.not 4 (Operand.tmp 20)), none⟩])
  (.cond (Operand.tmp 21)
    (.seq (.reg false [⟨some 22, (Op.build 40 #[]), none⟩,
      ⟨none, (Op.store 40 (Operand.tmp 8) (Operand.tmp 22)), none⟩,
      ⟨some 9, (Op.assign (Operand.const (Value.int IntKind.i64 1))), none⟩])
    .ret)
    .skip))
  (.seq (.seq (.reg false [⟨some 23, (Op.move (Operand.tmp 3)), none⟩,
    ⟨some 24, (Op.binOp BinOp.lss 3 (Operand.tmp 23) (Operand.const (Value.int IntKind.i64 0)) 3), none⟩,
    ⟨some 25, (Op.move (Operand.tmp 24)), none⟩,
    ⟨some 26, (Op.move (Operand.tmp 3)), some (25, false)⟩,
    ⟨some 27, (Op.move (Operand.tmp 1)), some (25, false)⟩,
    ⟨some 28, (Op.call { callee := (Callee.value (Operand.func 20)), args := #[(Operand.tmp 27)], argTypes := #[22] }), some (25, false)⟩,
    ⟨some 29, (Op.binOp BinOp.geq 3 (Operand.tmp 26) (Operand.tmp 28) 3), some (25, false)⟩,
    ⟨some 30, (Op.pick (Operand.tmp 25) (Operand.const (Value.bool true)) (Operand.tmp 29)), none⟩])
  (.cond (Operand.tmp 30)
    (.seq (.reg false [⟨some 31, (Op.build 40 #[]), none⟩,
      ⟨none, (Op.store 40 (Operand.tmp 8) (Operand.tmp 31)), none⟩,
      ⟨some 9, (Op.assign (Operand.const (Value.int IntKind.i64 23))), none⟩])
    .ret)
    .skip))
  (.seq (.reg false [⟨some 33, (Op.fieldAddr 40 (Operand.tmp 4) 0), none⟩,
    ⟨some 34, (Op.load 22 (Operand.tmp 33)), none⟩,
    ⟨some 35, (Op.move (Operand.tmp 1)), none⟩,
    ⟨some 36, (Op.move (Operand.tmp 2)), none⟩,
    ⟨some 37, (Op.move (Operand.tmp 3)), none⟩,
    ⟨some 38, (Op.call { callee := (Callee.value (Operand.func 40)), args := #[(Operand.tmp 34), (Operand.tmp 35), (Operand.tmp 36), (Operand.tmp 37)], argTypes := #[22, 22, 22, 3] }), none⟩,
    ⟨some 32, (Op.move (Operand.tmp 38)), none⟩,
    ⟨some 39, (Op.extract (Operand.tmp 32) 0), none⟩,
    ⟨some 40, (Op.extract (Operand.tmp 32) 1), none⟩,
    ⟨some 10, (Op.assign (Operand.tmp 39)), none⟩,
    ⟨some 11, (Op.assign (Operand.tmp 40)), none⟩])
  (.seq (.reg false [⟨some 41, (Op.load 40 (Operand.tmp 4)), none⟩,
    ⟨some 42, (Op.move (Operand.tmp 10)), none⟩,
    ⟨some 43, (Op.move (Operand.tmp 11)), none⟩,
    ⟨some 44, (Op.call { callee := (Callee.value (Operand.func 135)), args := #[(Operand.tmp 41), (Operand.tmp 42), (Operand.tmp 43)], argTypes := #[40, 22, 22] }), none⟩,
    ⟨some 45, (Op.extract (Operand.tmp 44) 0), none⟩,
    ⟨some 46, (Op.extract (Operand.tmp 44) 1), none⟩,
    ⟨none, (Op.store 40 (Operand.tmp 8) (Operand.tmp 45)), none⟩,
    ⟨some 9, (Op.assign (Operand.tmp 46)), none⟩])
  .ret))))))
noncomputable def b82 : Code := Try.f82.body.getD .skip
theorem hb82 : Try.f82.body = some b82 := by kernel_rfl
theorem sh82 : shortC A82 b82 = c82 := by kernel_rfl
def rs82 : List ResultVar := [(ResultVar.cell 8 40), (ResultVar.tmp 9)]
theorem hr82 : Try.f82.results.toList = rs82 := by kernel_rfl
/-! parquetry/parquetryref14.All (3 parameters; calls 20 parquetry/parquetryref14.Devices, 82 parquetry/parquetryref14.Part, 84 parquetry/parquetryref1.Tensor, 85 parquetry/parquetryref14.may) -/
def A34 : Ann := { live := fun i => if i = 7 then [1, 2, 3, 8, 9] else [], drop := fun i => false }
noncomputable def c34 : Cc :=
  (.seq (.reg false [⟨some 3, (Op.box 40 (Operand.tmp 0)), none⟩,
    ⟨some 6, (Op.assign (Operand.const (Value.slice none 0 0))), none⟩,
    ⟨some 7, (Op.assign (Operand.const (Value.int IntKind.i64 0))), none⟩])
  (.seq (.seq (.reg false [⟨some 12, (Op.load 40 (Operand.tmp 3)), none⟩,
    ⟨some 13, (Op.call { callee := (Callee.value (Operand.func 84)), args := #[(Operand.tmp 12)], argTypes := #[40] }), none⟩,
    ⟨some 14, (Op.unOp UnOp.not 4 (Operand.tmp 13)), none⟩])
  (.cond (Operand.tmp 14)
    (.seq (.reg false [⟨some 6, (Op.assign (Operand.const (Value.slice none 0 0))), none⟩,
      ⟨some 7, (Op.assign (Operand.const (Value.int IntKind.i64 13))), none⟩])
    .ret)
    .skip))
  (.seq (.seq (.reg false [⟨some 15, (Op.fieldAddr 40 (Operand.tmp 3) 0), none⟩,
    ⟨some 16, (Op.load 22 (Operand.tmp 15)), none⟩,
    ⟨some 17, (Op.move (Operand.tmp 1)), none⟩,
    ⟨some 18, (Op.move (Operand.tmp 2)), none⟩,
    ⟨some 19, (Op.call { callee := (Callee.value (Operand.func 85)), args := #[(Operand.tmp 16), (Operand.tmp 17), (Operand.tmp 18)], argTypes := #[22, 22, 22] }), none⟩,
    ⟨some 20, (Op.unOp UnOp.not 4 (Operand.tmp 19)), none⟩])
  (.cond (Operand.tmp 20)
    (.seq (.reg false [⟨some 6, (Op.assign (Operand.const (Value.slice none 0 0))), none⟩,
      ⟨some 7, (Op.assign (Operand.const (Value.int IntKind.i64 1))), none⟩])
    .ret)
    .skip))
  (.seq (.reg false [⟨some 8, (Op.assign (Operand.const (Value.slice none 0 0))), none⟩])
  (.seq (.seq (.reg false [⟨some 9, (Op.assign (Operand.const (Value.int IntKind.i64 0))), none⟩])
  (.block 0 (.loop [1, 2, 3, 8, 9] false
    (.seq (.seq (.reg false [⟨some 21, (Op.move (Operand.tmp 9)), none⟩,
      ⟨some 22, (Op.move (Operand.tmp 1)), none⟩,
      ⟨some 23, (Op.call { callee := (Callee.value (Operand.func 20)), args := #[(Operand.tmp 22)], argTypes := #[22] }), none⟩,
      ⟨some 24, (Op.binOp BinOp.lss 3 (Operand.tmp 21) (Operand.tmp 23) 3), none⟩])
    (.cond (Operand.tmp 24)
      .skip
      (.exit 0)))
    (.seq (.block 1 (.seq (.reg false [⟨some 28, (Op.load 40 (Operand.tmp 3)), none⟩,
      ⟨some 29, (Op.move (Operand.tmp 1)), none⟩,
      ⟨some 30, (Op.move (Operand.tmp 2)), none⟩,
      ⟨some 31, (Op.move (Operand.tmp 9)), none⟩,
      ⟨some 32, (Op.call { callee := (Callee.value (Operand.func 82)), args := #[(Operand.tmp 28), (Operand.tmp 29), (Operand.tmp 30), (Operand.tmp 31)], argTypes := #[40, 22, 22, 3] }), none⟩,
      ⟨some 27, (Op.move (Operand.tmp 32)), none⟩,
      ⟨some 33, (Op.extract (Operand.tmp 27) 0), none⟩,
      ⟨some 34, (Op.extract (Operand.tmp 27) 1), none⟩,
      ⟨some 10, (Op.alloc 40), none⟩,
      ⟨none, (Op.store 40 (Operand.tmp 10) (Operand.tmp 33)), none⟩,
      ⟨some 11, (Op.assign (Operand.tmp 34)), none⟩])
    (.reg false [⟨some 35, (Op.move (Operand.tmp 8)), none⟩,
      ⟨some 36, (Op.load 40 (Operand.tmp 10)), none⟩,
      ⟨some 37, (Op.buildSlice 45 1 #[(0, (Operand.tmp 36))]), none⟩,
      ⟨some 38, (Op.call { callee := (Callee.builtin Builtin.append), args := #[(Operand.tmp 35), (Operand.tmp 37)], argTypes := #[45, 45] }), none⟩,
      ⟨some 8, (Op.assign (Operand.tmp 38)), none⟩])))
    (.reg false [⟨some 25, (Op.move (Operand.tmp 9)), none⟩,
      ⟨some 26, (Op.binOp BinOp.add 3 (Operand.tmp 25) (Operand.const (Value.int IntKind.i64 1)) 3), none⟩,
      ⟨some 9, (Op.assign (Operand.tmp 26)), none⟩]))))))
  (.seq (.reg false [⟨some 39, (Op.move (Operand.tmp 8)), none⟩,
    ⟨some 6, (Op.assign (Operand.tmp 39)), none⟩,
    ⟨some 7, (Op.assign (Operand.const (Value.int IntKind.i64 0))), none⟩])
  .ret))))))
noncomputable def b34 : Code := Try.f34.body.getD .skip
theorem hb34 : Try.f34.body = some b34 := by kernel_rfl
theorem sh34 : shortC A34 b34 = c34 := by kernel_rfl
def rs34 : List ResultVar := [(ResultVar.tmp 6), (ResultVar.tmp 7)]
theorem hr34 : Try.f34.results.toList = rs34 := by kernel_rfl
/-! parquetry/parquetryref1.Tensors (2 parameters; calls 39 parquetry/parquetryref1.Same) -/
def A83 : Ann := { live := fun i => if i = 4 then [0, 1, 5] else [], drop := fun i => false }
noncomputable def c83 : Cc :=
  (.seq (.reg false [⟨some 4, (Op.assign (Operand.const (Value.bool false))), none⟩])
  (.seq (.seq (.reg false [⟨some 6, (Op.move (Operand.tmp 0)), none⟩,
    ⟨some 7, (Op.call { callee := (Callee.builtin Builtin.len), args := #[(Operand.tmp 6)], argTypes := #[45] }), none⟩,
    ⟨some 8, (Op.move (Operand.tmp 1)), none⟩,
    ⟨some 9, (Op.call { callee := (Callee.builtin Builtin.len), args := #[(Operand.tmp 8)], argTypes := #[45] }), none⟩,
    ⟨some 10, (Op.binOp BinOp.neq 3 (Operand.tmp 7) (Operand.tmp 9) 3), none⟩])
  (.cond (Operand.tmp 10)
    (.seq (.reg false [⟨some 4, (Op.assign (Operand.const (Value.bool false))), none⟩])
    .ret)
    .skip))
  (.seq (.seq (.reg false [⟨some 5, (Op.assign (Operand.const (Value.int IntKind.i64 0))), none⟩])
  (.block 0 (.loop [0, 1, 5] false
    (.seq (.seq (.reg false [⟨some 11, (Op.move (Operand.tmp 5)), none⟩,
      ⟨some 12, (Op.move (Operand.tmp 0)), none⟩,
      ⟨some 13, (Op.call { callee := (Callee.builtin Builtin.len), args := #[(Operand.tmp 12)], argTypes := #[45] }), none⟩,
      ⟨some 14, (Op.binOp BinOp.lss 3 (Operand.tmp 11) (Operand.tmp 13) 3), none⟩])
    (.cond (Operand.tmp 14)
      .skip
      (.exit 0)))
    (.seq (.block 1 (.seq (.reg false [⟨some 17, (Op.move (Operand.tmp 0)), none⟩,
      ⟨some 18, (Op.move (Operand.tmp 5)), none⟩,
      ⟨some 19, (Op.indexAddr 45 (Operand.tmp 17) (Operand.tmp 18)), none⟩,
      ⟨some 20, (Op.load 40 (Operand.tmp 19)), none⟩,
      ⟨some 21, (Op.move (Operand.tmp 1)), none⟩,
      ⟨some 22, (Op.move (Operand.tmp 5)), none⟩,
      ⟨some 23, (Op.indexAddr 45 (Operand.tmp 21) (Operand.tmp 22)), none⟩,
      ⟨some 24, (Op.load 40 (Operand.tmp 23)), none⟩,
      ⟨some 25, (Op.call { callee := (Callee.value (Operand.func 39)), args := #[(Operand.tmp 20), (Operand.tmp 24)], argTypes := #[40, 40] }), none⟩,
      ⟨some 26, (Op.unOp UnOp.not 4 (Operand.tmp 25)), none⟩])
    (.cond (Operand.tmp 26)
      (.seq (.reg false [⟨some 4, (Op.assign (Operand.const (Value.bool false))), none⟩])
      .ret)
      .skip)))
    (.reg false [⟨some 15, (Op.move (Operand.tmp 5)), none⟩,
      ⟨some 16, (Op.binOp BinOp.add 3 (Operand.tmp 15) (Operand.const (Value.int IntKind.i64 1)) 3), none⟩,
      ⟨some 5, (Op.assign (Operand.tmp 16)), none⟩]))))))
  (.seq (.reg false [⟨some 4, (Op.assign (Operand.const (Value.bool true))), none⟩])
  .ret))))
noncomputable def b83 : Code := Try.f83.body.getD .skip
theorem hb83 : Try.f83.body = some b83 := by kernel_rfl
theorem sh83 : shortC A83 b83 = c83 := by kernel_rfl
def rs83 : List ResultVar := [(ResultVar.tmp 4)]
theorem hr83 : Try.f83.results.toList = rs83 := by kernel_rfl
/-! parquetry/parquetrylaw17.same (4 parameters; calls 34 parquetry/parquetryref14.All, 37 parquetry/split.All, 39 parquetry/parquetryref1.Same, 81 parquetry/split.Part, 82 parquetry/parquetryref14.Part, 83 parquetry/parquetryref1.Tensors) -/
def A33 : Ann := { drop := fun i => false }
noncomputable def c33 : Cc :=
  (.seq (.reg false [⟨some 4, (Op.box 40 (Operand.tmp 0)), none⟩,
    ⟨some 8, (Op.assign (Operand.const (Value.bool false))), none⟩])
  (.seq (.reg false [⟨some 18, (Op.load 40 (Operand.tmp 4)), none⟩,
    ⟨some 19, (Op.move (Operand.tmp 1)), none⟩,
    ⟨some 20, (Op.move (Operand.tmp 2)), none⟩,
    ⟨some 21, (Op.move (Operand.tmp 3)), none⟩,
    ⟨some 22, (Op.call { callee := (Callee.value (Operand.func 81)), args := #[(Operand.tmp 18), (Operand.tmp 19), (Operand.tmp 20), (Operand.tmp 21)], argTypes := #[40, 22, 22, 3] }), none⟩,
    ⟨some 17, (Op.move (Operand.tmp 22)), none⟩,
    ⟨some 23, (Op.extract (Operand.tmp 17) 0), none⟩,
    ⟨some 24, (Op.extract (Operand.tmp 17) 1), none⟩,
    ⟨some 9, (Op.alloc 40), none⟩,
    ⟨none, (Op.store 40 (Operand.tmp 9) (Operand.tmp 23)), none⟩,
    ⟨some 10, (Op.assign (Operand.tmp 24)), none⟩])
  (.seq (.reg false [⟨some 26, (Op.load 40 (Operand.tmp 4)), none⟩,
    ⟨some 27, (Op.move (Operand.tmp 1)), none⟩,
    ⟨some 28, (Op.move (Operand.tmp 2)), none⟩,
    ⟨some 29, (Op.move (Operand.tmp 3)), none⟩,
    ⟨some 30, (Op.call { callee := (Callee.value (Operand.func 82)), args := #[(Operand.tmp 26), (Operand.tmp 27), (Operand.tmp 28), (Operand.tmp 29)], argTypes := #[40, 22, 22, 3] }), none⟩,
    ⟨some 25, (Op.move (Operand.tmp 30)), none⟩,
    ⟨some 31, (Op.extract (Operand.tmp 25) 0), none⟩,
    ⟨some 32, (Op.extract (Operand.tmp 25) 1), none⟩,
    ⟨some 11, (Op.alloc 40), none⟩,
    ⟨none, (Op.store 40 (Operand.tmp 11) (Operand.tmp 31)), none⟩,
    ⟨some 12, (Op.assign (Operand.tmp 32)), none⟩])
  (.seq (.reg false [⟨some 34, (Op.load 40 (Operand.tmp 4)), none⟩,
    ⟨some 35, (Op.move (Operand.tmp 1)), none⟩,
    ⟨some 36, (Op.move (Operand.tmp 2)), none⟩,
    ⟨some 37, (Op.call { callee := (Callee.value (Operand.func 37)), args := #[(Operand.tmp 34), (Operand.tmp 35), (Operand.tmp 36)], argTypes := #[40, 22, 22] }), none⟩,
    ⟨some 33, (Op.move (Operand.tmp 37)), none⟩,
    ⟨some 38, (Op.extract (Operand.tmp 33) 0), none⟩,
    ⟨some 39, (Op.extract (Operand.tmp 33) 1), none⟩,
    ⟨some 13, (Op.assign (Operand.tmp 38)), none⟩,
    ⟨some 14, (Op.assign (Operand.tmp 39)), none⟩])
  (.seq (.reg false [⟨some 41, (Op.load 40 (Operand.tmp 4)), none⟩,
    ⟨some 42, (Op.move (Operand.tmp 1)), none⟩,
    ⟨some 43, (Op.move (Operand.tmp 2)), none⟩,
    ⟨some 44, (Op.call { callee := (Callee.value (Operand.func 34)), args := #[(Operand.tmp 41), (Operand.tmp 42), (Operand.tmp 43)], argTypes := #[40, 22, 22] }), none⟩,
    ⟨some 40, (Op.move (Operand.tmp 44)), none⟩,
    ⟨some 45, (Op.extract (Operand.tmp 40) 0), none⟩,
    ⟨some 46, (Op.extract (Operand.tmp 40) 1), none⟩,
    ⟨some 15, (Op.assign (Operand.tmp 45)), none⟩,
    ⟨some 16, (Op.assign (Operand.tmp 46)), none⟩])
  (.seq (.reg false [⟨some 47, (Op.move (Operand.tmp 10)), none⟩,
    ⟨some 48, (Op.move (Operand.tmp 12)), none⟩,
    ⟨some 49, (Op.binOp BinOp.eql 46 (Operand.tmp 47) (Operand.tmp 48) 46), none⟩,
    ⟨some 50, (Op.move (Operand.tmp 49)), none⟩,
    ⟨some 51, (Op.load 40 (Operand.tmp 9)), some (50, true)⟩,
    ⟨some 52, (Op.load 40 (Operand.tmp 11)), some (50, true)⟩,
    ⟨some 53, (Op.call { callee := (Callee.value (Operand.func 39)), args := #[(Operand.tmp 51), (Operand.tmp 52)], argTypes := #[40, 40] }), some (50, true)⟩,
    ⟨some 54, (Op.pick (Operand.tmp 50) (Operand.tmp 53) (Operand.const (Value.bool false))), none⟩,
    ⟨some 55, (Op.move (Operand.tmp 54)), none⟩,
    ⟨some 56, (Op.move (Operand.tmp 14)), some (55, true)⟩,
    ⟨some 57, (Op.move (Operand.tmp 16)), some (55, true)⟩,
    ⟨some 58, (Op.binOp BinOp.eql 46 (Operand.tmp 56) (Operand.tmp 57) 46), some (55, true)⟩,
    ⟨some 59, (Op.pick (Operand.tmp 55) (Operand.tmp 58) (Operand.const (Value.bool false))), none⟩,
    ⟨some 60, (Op.move (Operand.tmp 59)), none⟩,
    ⟨some 61, (Op.move (Operand.tmp 13)), some (60, true)⟩,
    ⟨some 62, (Op.move (Operand.tmp 15)), some (60, true)⟩,
    ⟨some 63, (Op.call { callee := (Callee.value (Operand.func 83)), args := #[(Operand.tmp 61), (Operand.tmp 62)], argTypes := #[45, 45] }), some (60, true)⟩,
    ⟨some 64, (Op.pick (Operand.tmp 60) (Operand.tmp 63) (Operand.const (Value.bool false))), none⟩,
    ⟨some 8, (Op.assign (Operand.tmp 64)), none⟩])
  .ret))))))
noncomputable def b33 : Code := Try.f33.body.getD .skip
theorem hb33 : Try.f33.body = some b33 := by kernel_rfl
theorem sh33 : shortC A33 b33 = c33 := by kernel_rfl
def rs33 : List ResultVar := [(ResultVar.tmp 8)]
theorem hr33 : Try.f33.results.toList = rs33 := by kernel_rfl
/- What a function has made, told at once: values, each with its tree. -/
mutual
/-- As Rep, of any time. -/
def RX (H : Hp) : Tr → AV → List (Nat × Nat) → Prop
  | .at a, v, bs => v = a ∧ bs = []
  | .sl n es full cs, v, bs => ∃ b ver vs bs', v = .sl b ver 0 n es full ∧ H.at b ver = some ⟨ver, vs, true, true⟩ ∧ RXs H cs vs bs' ∧ bs = bs' ++ [(b, ver)]
  | .bx cs, v, bs => ∃ b ver vs bs', v = .ptr b ver 0 ∧ H.at b ver = some ⟨ver, vs, true, true⟩ ∧ RXs H cs vs bs' ∧ bs = bs' ++ [(b, ver)]
  | .agg cs, v, bs => ∃ vs, v = .agg vs ∧ RXs H cs vs bs
  | .tup cs, v, bs => ∃ vs, v = .tup vs ∧ RXs H cs vs bs
def RXs (H : Hp) : List Tr → List AV → List (Nat × Nat) → Prop
  | [], vs, bs => vs = [] ∧ bs = []
  | t :: l, vs, bs => ∃ v vs' b1 b2, vs = v :: vs' ∧ RX H t v b1 ∧ RXs H l vs' b2 ∧ bs = b1 ++ b2
end
mutual
theorem RX.keep {H H' : Hp} : ∀ (t : Tr) {v : AV} {bs : List (Nat × Nat)}, (∀ p ∈ bs, Keeps H H' p.1 p.2) → RX H t v bs → RX H' t v bs
  | .at a, v, bs, hn, h => by simpa only [RX] using h
  | .sl n es full cs, v, bs, hn, h => by
    simp only [RX] at h ⊢
    obtain ⟨b, ver, vs, bs', e1, e3, e4, rfl⟩ := h
    exact ⟨b, ver, vs, bs', e1, hn (b, ver) (by simp) _ e3, RXs.keep cs (fun p hp => hn p (by simp [hp])) e4, rfl⟩
  | .bx cs, v, bs, hn, h => by
    simp only [RX] at h ⊢
    obtain ⟨b, ver, vs, bs', e1, e3, e4, rfl⟩ := h
    exact ⟨b, ver, vs, bs', e1, hn (b, ver) (by simp) _ e3, RXs.keep cs (fun p hp => hn p (by simp [hp])) e4, rfl⟩
  | .agg cs, v, bs, hn, h => by
    simp only [RX] at h ⊢
    obtain ⟨vs, e1, e4⟩ := h
    exact ⟨vs, e1, RXs.keep cs hn e4⟩
  | .tup cs, v, bs, hn, h => by
    simp only [RX] at h ⊢
    obtain ⟨vs, e1, e4⟩ := h
    exact ⟨vs, e1, RXs.keep cs hn e4⟩
theorem RXs.keep {H H' : Hp} : ∀ (l : List Tr) {vs : List AV} {bs : List (Nat × Nat)}, (∀ p ∈ bs, Keeps H H' p.1 p.2) → RXs H l vs bs → RXs H' l vs bs
  | [], vs, bs, hn, h => by simpa only [RXs] using h
  | t :: l, vs, bs, hn, h => by
    simp only [RXs] at h ⊢
    obtain ⟨v, vs', b1, b2, e1, e2, e3, rfl⟩ := h
    exact ⟨v, vs', b1, b2, e1, RX.keep t (fun p hp => hn p (by simp [hp])) e2, RXs.keep l (fun p hp => hn p (by simp [hp])) e3, rfl⟩
end
mutual
theorem RX.of {c : Nat} {H : Hp} : ∀ (t : Tr) {v : AV} {bs : List (Nat × Nat)}, Rep c H t v bs → RX H t v bs ∧ ∀ p ∈ bs, c ≤ p.2
  | .at a, v, bs, h => by simp only [Rep, RX] at h ⊢; exact ⟨⟨h.1, h.2.1⟩, by simp [h.2.1]⟩
  | .sl n es full cs, v, bs, h => by
    simp only [Rep, RX] at h ⊢
    obtain ⟨b, ver, vs, bs', e1, e2, e3, e4, rfl⟩ := h
    obtain ⟨g1, g2⟩ := RXs.of cs e4
    exact ⟨⟨b, ver, vs, bs', e1, e3, g1, rfl⟩, fun p hp => (List.mem_append.1 hp).elim (g2 p) fun hp => by simp at hp; subst hp; exact e2⟩
  | .bx cs, v, bs, h => by
    simp only [Rep, RX] at h ⊢
    obtain ⟨b, ver, vs, bs', e1, e2, e3, e4, rfl⟩ := h
    obtain ⟨g1, g2⟩ := RXs.of cs e4
    exact ⟨⟨b, ver, vs, bs', e1, e3, g1, rfl⟩, fun p hp => (List.mem_append.1 hp).elim (g2 p) fun hp => by simp at hp; subst hp; exact e2⟩
  | .agg cs, v, bs, h => by
    simp only [Rep, RX] at h ⊢
    obtain ⟨vs, e1, e4⟩ := h
    obtain ⟨g1, g2⟩ := RXs.of cs e4
    exact ⟨⟨vs, e1, g1⟩, g2⟩
  | .tup cs, v, bs, h => by
    simp only [Rep, RX] at h ⊢
    obtain ⟨vs, e1, e4⟩ := h
    obtain ⟨g1, g2⟩ := RXs.of cs e4
    exact ⟨⟨vs, e1, g1⟩, g2⟩
theorem RXs.of {c : Nat} {H : Hp} : ∀ (l : List Tr) {vs : List AV} {bs : List (Nat × Nat)}, Reps c H l vs bs → RXs H l vs bs ∧ ∀ p ∈ bs, c ≤ p.2
  | [], vs, bs, h => by simp only [Reps, RXs] at h ⊢; exact ⟨h, by simp [h.2]⟩
  | t :: l, vs, bs, h => by
    simp only [Reps, RXs] at h ⊢
    obtain ⟨v, vs', b1, b2, e1, e2, e3, rfl⟩ := h
    obtain ⟨g1, g2⟩ := RX.of t e2
    obtain ⟨g3, g4⟩ := RXs.of l e3
    exact ⟨⟨v, vs', b1, b2, e1, g1, g3, rfl⟩, fun p hp => (List.mem_append.1 hp).elim (g2 p) (g4 p)⟩
end
mutual
theorem RX.rep {c : Nat} {H : Hp} : ∀ (t : Tr) {v : AV} {bs : List (Nat × Nat)}, okT c t = true → (∀ p ∈ bs, c ≤ p.2) → RX H t v bs → Rep c H t v bs
  | .at a, v, bs, ho, hb, h => by simp only [Rep, RX, okT] at h ho ⊢; exact ⟨h.1, h.2, ho⟩
  | .sl n es full cs, v, bs, ho, hb, h => by
    simp only [Rep, RX, okT] at h ho ⊢
    obtain ⟨b, ver, vs, bs', e1, e3, e4, rfl⟩ := h
    exact ⟨b, ver, vs, bs', e1, hb (b, ver) (by simp), e3, RXs.rep cs ho (fun p hp => hb p (by simp [hp])) e4, rfl⟩
  | .bx cs, v, bs, ho, hb, h => by
    simp only [Rep, RX, okT] at h ho ⊢
    obtain ⟨b, ver, vs, bs', e1, e3, e4, rfl⟩ := h
    exact ⟨b, ver, vs, bs', e1, hb (b, ver) (by simp), e3, RXs.rep cs ho (fun p hp => hb p (by simp [hp])) e4, rfl⟩
  | .agg cs, v, bs, ho, hb, h => by
    simp only [Rep, RX, okT] at h ho ⊢
    obtain ⟨vs, e1, e4⟩ := h
    exact ⟨vs, e1, RXs.rep cs ho hb e4⟩
  | .tup cs, v, bs, ho, hb, h => by
    simp only [Rep, RX, okT] at h ho ⊢
    obtain ⟨vs, e1, e4⟩ := h
    exact ⟨vs, e1, RXs.rep cs ho hb e4⟩
theorem RXs.rep {c : Nat} {H : Hp} : ∀ (l : List Tr) {vs : List AV} {bs : List (Nat × Nat)}, okTs c l = true → (∀ p ∈ bs, c ≤ p.2) → RXs H l vs bs → Reps c H l vs bs
  | [], vs, bs, ho, hb, h => by simpa only [Reps, RXs] using h
  | t :: l, vs, bs, ho, hb, h => by
    simp only [Reps, RXs, okTs, Bool.and_eq_true] at h ho ⊢
    obtain ⟨v, vs', b1, b2, e1, e2, e3, rfl⟩ := h
    exact ⟨v, vs', b1, b2, e1, RX.rep t ho.1 (fun p hp => hb p (by simp [hp])) e2, RXs.rep l ho.2 (fun p hp => hb p (by simp [hp])) e3, rfl⟩
end
mutual
theorem RX.live {H : Hp} : ∀ (t : Tr) {v : AV} {bs : List (Nat × Nat)}, RX H t v bs → ∀ p ∈ bs, ∃ cs, H.at p.1 p.2 = some ⟨p.2, cs, true, true⟩
  | .at a, v, bs, h => by simp only [RX] at h; simp [h.2]
  | .sl n es full cs, v, bs, h => by
    simp only [RX] at h
    obtain ⟨b, ver, vs, bs', e1, e3, e4, rfl⟩ := h
    intro p hp
    rcases List.mem_append.1 hp with hp | hp
    · exact RXs.live cs e4 p hp
    · simp at hp; subst hp; exact ⟨_, e3⟩
  | .bx cs, v, bs, h => by
    simp only [RX] at h
    obtain ⟨b, ver, vs, bs', e1, e3, e4, rfl⟩ := h
    intro p hp
    rcases List.mem_append.1 hp with hp | hp
    · exact RXs.live cs e4 p hp
    · simp at hp; subst hp; exact ⟨_, e3⟩
  | .agg cs, v, bs, h => by simp only [RX] at h; obtain ⟨vs, _, h⟩ := h; exact RXs.live cs h
  | .tup cs, v, bs, h => by simp only [RX] at h; obtain ⟨vs, _, h⟩ := h; exact RXs.live cs h
theorem RXs.live {H : Hp} : ∀ (l : List Tr) {vs : List AV} {bs : List (Nat × Nat)}, RXs H l vs bs → ∀ p ∈ bs, ∃ cs, H.at p.1 p.2 = some ⟨p.2, cs, true, true⟩
  | [], vs, bs, h => by simp only [RXs] at h; simp [h.2]
  | t :: l, vs, bs, h => by
    simp only [RXs] at h
    obtain ⟨v, vs', b1, b2, e1, e2, e3, rfl⟩ := h
    intro p hp
    exact (List.mem_append.1 hp).elim (RX.live t e2 p) (RXs.live l e3 p)
end
mutual
theorem RX.uniq {H : Hp} : ∀ (t : Tr) {v : AV} {b b' : List (Nat × Nat)}, RX H t v b → RX H t v b' → b = b'
  | .at a, v, b, b', h, k => by simp only [RX] at h k; rw [h.2, k.2]
  | .sl n es full cs, v, b, b', h, k => by
    simp only [RX] at h k
    obtain ⟨b0, ver, vs, bs', rfl, e3, e4, rfl⟩ := h
    obtain ⟨b1, ver1, vs1, bs1, e, f3, f4, rfl⟩ := k
    cases e
    rw [e3] at f3
    cases f3
    rw [RXs.uniq cs e4 f4]
  | .bx cs, v, b, b', h, k => by
    simp only [RX] at h k
    obtain ⟨b0, ver, vs, bs', rfl, e3, e4, rfl⟩ := h
    obtain ⟨b1, ver1, vs1, bs1, e, f3, f4, rfl⟩ := k
    cases e
    rw [e3] at f3
    cases f3
    rw [RXs.uniq cs e4 f4]
  | .agg cs, v, b, b', h, k => by
    simp only [RX] at h k
    obtain ⟨vs, rfl, h⟩ := h
    obtain ⟨vs', e, k⟩ := k
    cases e
    exact RXs.uniq cs h k
  | .tup cs, v, b, b', h, k => by
    simp only [RX] at h k
    obtain ⟨vs, rfl, h⟩ := h
    obtain ⟨vs', e, k⟩ := k
    cases e
    exact RXs.uniq cs h k
theorem RXs.uniq {H : Hp} : ∀ (l : List Tr) {vs : List AV} {b b' : List (Nat × Nat)}, RXs H l vs b → RXs H l vs b' → b = b'
  | [], vs, b, b', h, k => by simp only [RXs] at h k; rw [h.2, k.2]
  | t :: l, vs, b, b', h, k => by
    simp only [RXs] at h k
    obtain ⟨v, vs', b1, b2, rfl, e2, e3, rfl⟩ := h
    obtain ⟨v1, vs1, c1, c2, e, f2, f3, rfl⟩ := k
    cases e
    rw [RX.uniq t e2 f2, RXs.uniq l e3 f3]
end
theorem RXs.len {H : Hp} : ∀ (l : List Tr) {vs : List AV} {bs : List (Nat × Nat)}, RXs H l vs bs → vs.length = l.length := by
  intro l
  induction l with
  | nil => intro vs bs h; simp only [RXs] at h; rw [h.1]; rfl
  | cons t l ih =>
    intro vs bs h
    simp only [RXs] at h
    obtain ⟨v, vs', b1, b2, rfl, _, h2, _⟩ := h
    simp [ih h2]
theorem RXs.app {H : Hp} : ∀ (l m : List Tr) {vs : List AV} {bs : List (Nat × Nat)}, RXs H (l ++ m) vs bs ↔ ∃ v1 v2 b1 b2, vs = v1 ++ v2 ∧ bs = b1 ++ b2 ∧ RXs H l v1 b1 ∧ RXs H m v2 b2 := by
  intro l
  induction l with
  | nil =>
    intro m vs bs
    simp only [List.nil_append, RXs]
    constructor
    · intro h; exact ⟨[], vs, [], bs, rfl, rfl, ⟨rfl, rfl⟩, h⟩
    · rintro ⟨v1, v2, b1, b2, rfl, rfl, ⟨rfl, rfl⟩, h⟩; exact h
  | cons t l ih =>
    intro m vs bs
    simp only [List.cons_append, RXs]
    constructor
    · rintro ⟨v, vs', b1, b2, rfl, h1, h2, rfl⟩
      obtain ⟨v1, v2, b3, b4, rfl, rfl, h3, h4⟩ := (ih m).1 h2
      exact ⟨v :: v1, v2, b1 ++ b3, b4, rfl, by simp, ⟨v, v1, b1, b3, rfl, h1, h3, rfl⟩, h4⟩
    · rintro ⟨v1, v2, b3, b4, rfl, rfl, ⟨v, vs', b1, b2, rfl, h1, h2, rfl⟩, h4⟩
      exact ⟨v, vs' ++ v2, b1, b2 ++ b4, rfl, h1, (ih m).2 ⟨vs', v2, b2, b4, rfl, rfl, h2, h4⟩, by simp⟩
theorem RXs.leaves {H : Hp} : ∀ (l : List AV), RXs H (l.map .at) l [] := by
  intro l
  induction l with
  | nil => simp [RXs]
  | cons a l ih => simp only [List.map_cons, RXs, RX]; exact ⟨a, l, [], [], rfl, ⟨rfl, rfl⟩, ih, rfl⟩
/-- One of many. -/
theorem RXs.pick {H : Hp} : ∀ (ts : List Tr) {vs : List AV} {bs : List (Nat × Nat)}, RXs H ts vs bs → ∀ (i : Nat) (t : Tr), ts[i]? = some t → ∃ v b1 b b2, vs[i]? = some v ∧ bs = b1 ++ (b ++ b2) ∧ RX H t v b ∧
    (∀ (H' : Hp) (t' : Tr) (v' : AV) (b' : List (Nat × Nat)), RX H' t' v' b' → (∀ p, p ∈ b1 ∨ p ∈ b2 → Keeps H H' p.1 p.2) → RXs H' (ts.set i t') (vs.set i v') (b1 ++ (b' ++ b2))) ∧ RXs H (ts.eraseIdx i) (vs.eraseIdx i) (b1 ++ b2) := by
  intro ts
  induction ts with
  | nil => intro vs bs h i t hi; simp at hi
  | cons t0 ts ih =>
    intro vs bs h i t hi
    simp only [RXs] at h
    obtain ⟨v, vs', b1, b2, rfl, h1, h2, rfl⟩ := h
    cases i with
    | zero =>
      simp at hi; subst hi
      refine ⟨v, [], b1, b2, by simp, by simp, h1, fun H' t' v' b' h' hk => ?_, by simpa using h2⟩
      simp only [List.set_cons_zero, RXs, List.nil_append]
      exact ⟨v', vs', b', b2, rfl, h', RXs.keep ts (fun p hp => hk p (.inr hp)) h2, rfl⟩
    | succ i =>
      obtain ⟨v1, c1, c, c2, g1, rfl, g3, g4, g5⟩ := ih h2 i t (by simpa using hi)
      refine ⟨v1, b1 ++ c1, c, c2, by simpa using g1, by simp, g3, fun H' t' v' b' h' hk => ?_, ?_⟩
      · simp only [List.set_cons_succ, RXs]
        exact ⟨v, vs'.set i v', b1, c1 ++ (b' ++ c2), rfl, RX.keep t0 (fun p hp => hk p (by simp [hp])) h1, g4 H' t' v' b' h' (fun p hp => hk p (hp.elim (fun h => .inl (by simp [h])) .inr)), by simp⟩
      · simp only [List.eraseIdx_cons_succ, RXs]
        exact ⟨v, vs'.eraseIdx i, b1, c1 ++ c2, rfl, h1, g5, by simp⟩
theorem erase_map {α β : Type} (f : α → β) : ∀ (l : List α) (i : Nat), (l.map f).eraseIdx i = (l.eraseIdx i).map f := by
  intro l
  induction l with
  | nil => intro i; simp
  | cons a l ih => intro i; cases i with | zero => simp | succ i => simp [ih]
theorem set_get {α : Type} {l : List α} {j : Nat} {x : α} (h : l[j]? = some x) : l.set j x = l := by
  refine List.ext_getElem? fun n => ?_
  by_cases hn : j = n
  · subst hn
    have := (List.getElem?_eq_some_iff.1 h).1
    rw [List.getElem?_set_self this, h]
  · rw [List.getElem?_set_ne hn]
/-! ### what lies in memory beside what came in -/
structure Bs where
  H : Hp
  A : List (Nat × Nat)
/-- What came in stands, but for what may be written. -/
structure Fm (B : Bs) (H : Hp) : Prop where
  pre : ∀ (b : Nat) (k : Blk), B.H.bs[b]? = some k → (b, k.ver) ∉ B.A → H.bs[b]? = some k
  wf : Wf H
  c : B.H.c ≤ H.c
  len : B.H.bs.length ≤ H.bs.length
abbrev Lo := List (AV × Tr)
structure SL (B : Bs) (L : Lo) (H : Hp) : Prop where
  w0 : Wf B.H
  fm : Fm B H
  rx : ∃ bs, RXs H (L.map Prod.snd) (L.map Prod.fst) bs ∧ bs.Nodup ∧ ∀ p ∈ bs, B.H.c ≤ p.2 ∨ p ∈ B.A
/-- A step that leaves all alone but bi. -/
structure Stp (bi : List (Nat × Nat)) (H H' : Hp) : Prop where
  k : ∀ b ver, (b, ver) ∉ bi → Keeps H H' b ver
  wf : Wf H'
  c : H.c ≤ H'.c
  len : H.bs.length ≤ H'.bs.length
section
variable {B : Bs} {L : Lo} {H : Hp}
theorem SL.ext (h : SL B L H) (hA : B.A = []) : Ext B.H H := ⟨fun b k hk => h.fm.pre b k hk (by simp [hA]), h.fm.wf, h.fm.c⟩
theorem Fm.step {bi : List (Nat × Nat)} {H' : Hp} (h0 : Wf B.H) (h : Fm B H) (hs : Stp bi H H') (hb : ∀ p ∈ bi, B.H.c ≤ p.2 ∨ p ∈ B.A) : Fm B H' := by
  refine ⟨fun b k hk hA => ?_, hs.wf, Nat.le_trans h.c hs.c, Nat.le_trans h.len hs.len⟩
  have h1 := h.pre b k hk hA
  have h2 : H.at b k.ver = some k := by simp [Hp.at, h1]
  have hlt := h0 b k hk
  have : (b, k.ver) ∉ bi := fun hm => by
    rcases hb _ hm with h | h
    · simp only at h; omega
    · exact hA h
  exact (Hp.at_some (hs.k b k.ver this k h2)).1
theorem lt_of_at (hw : Wf H) {b ver : Nat} {k : Blk} (h : H.at b ver = some k) : ver < H.c := at_lt hw h
theorem getE {α β : Type} {f : α → β} {l : List α} {i : Nat} {x : α} (h : l[i]? = some x) : (l.map f)[i]? = some (f x) := by simp [h]
theorem nodup_perm {a b : List (Nat × Nat)} (h : a.Nodup) (hp : ∀ x, a.count x = b.count x) : b.Nodup := (List.perm_iff_count.2 hp).nodup_iff.1 h
/-- One value is made another. -/
theorem SL.upd (h : SL B L H) (i : Nat) {u u' : AV} {t t' : Tr} {H' : Hp} (hi : L[i]? = some (u, t))
    (hs : ∀ bi, RX H t u bi → bi.Nodup → ∃ bi', RX H' t' u' bi' ∧ bi'.Nodup ∧ (∀ p ∈ bi', p ∈ bi ∨ H.c ≤ p.2) ∧ Stp bi H H') : SL B (L.set i (u', t')) H' := by
  obtain ⟨bs, h1, h2, h3⟩ := h.rx
  obtain ⟨v, b1, b, b2, g1, rfl, g3, g4, _⟩ := RXs.pick _ h1 i t (getE hi)
  have : v = u := by rw [getE hi] at g1; exact (Option.some.inj g1).symm
  subst this
  have hn := List.nodup_append.1 h2
  have hn2 := List.nodup_append.1 hn.2.1
  obtain ⟨b', r', n', f', st⟩ := hs b g3 hn2.1
  have hlive := RXs.live _ h1
  have hlt : ∀ p ∈ b1 ++ (b ++ b2), p.2 < H.c := fun p hp => by
    obtain ⟨cs, hcs⟩ := hlive p hp
    exact lt_of_at h.fm.wf hcs
  refine ⟨h.w0, h.fm.step h.w0 st (fun p hp => h3 p (by simp [hp])), b1 ++ (b' ++ b2), ?_, ?_, ?_⟩
  · rw [List.map_set, List.map_set]
    refine g4 H' t' u' b' r' fun p hp => st.k p.1 p.2 fun hm => ?_
    rcases hp with hp | hp
    · exact hn.2.2 p hp p (by simp [hm]) rfl
    · exact hn2.2.2 p hm p hp rfl
  · refine List.nodup_append.2 ⟨hn.1, List.nodup_append.2 ⟨n', hn2.2.1, ?_⟩, ?_⟩
    · intro x hx y hy e
      subst e
      rcases f' x hx with h | h
      · exact hn2.2.2 x h x hy rfl
      · have := hlt x (by simp [hy]); omega
    · intro x hx y hy e
      subst e
      rcases List.mem_append.1 hy with hy | hy
      · rcases f' x hy with h | h
        · exact hn.2.2 x hx x (by simp [h]) rfl
        · have := hlt x (by simp [hx]); omega
      · exact hn.2.2 x hx x (by simp [hy]) rfl
  · intro p hp
    rcases List.mem_append.1 hp with hp | hp
    · exact h3 p (by simp [hp])
    · rcases List.mem_append.1 hp with hp | hp
      · rcases f' p hp with h' | h'
        · exact h3 p (by simp [h'])
        · left; have := h.fm.c; omega
      · exact h3 p (by simp [hp])
/-- One value more. -/
theorem SL.push (h : SL B L H) {u : AV} {t : Tr} {H' : Hp} {b' : List (Nat × Nat)} (hr : RX H' t u b') (hn : b'.Nodup) (hf : ∀ p ∈ b', H.c ≤ p.2) (hs : Stp [] H H') : SL B ((u, t) :: L) H' := by
  obtain ⟨bs, h1, h2, h3⟩ := h.rx
  refine ⟨h.w0, h.fm.step h.w0 hs (by simp), b' ++ bs, ?_, ?_, ?_⟩
  · simp only [List.map_cons, RXs]
    exact ⟨u, _, b', bs, rfl, hr, RXs.keep _ (fun p _ => hs.k p.1 p.2 (by simp)) h1, rfl⟩
  · refine List.nodup_append.2 ⟨hn, h2, fun x hx y hy e => ?_⟩
    subst e
    obtain ⟨cs, hcs⟩ := RXs.live _ h1 x hy
    have := lt_of_at h.fm.wf hcs
    have := hf x hx
    omega
  · intro p hp
    rcases List.mem_append.1 hp with hp | hp
    · left; have := hf p hp; have := h.fm.c; omega
    · exact h3 p hp
theorem Stp.of {H' : Hp} (hp : Pre H H') (hw : Wf H') (hc : H.c ≤ H'.c) (hl : H.bs.length ≤ H'.bs.length) : Stp [] H H' := ⟨fun b ver _ => Keeps.pre hp b ver, hw, hc, hl⟩
theorem SL.erase (h : SL B L H) (i : Nat) : SL B (L.eraseIdx i) H := by
  cases hi : L[i]? with
  | none => rw [List.eraseIdx_of_length_le (by simpa using hi)]; exact h
  | some x =>
    obtain ⟨bs, h1, h2, h3⟩ := h.rx
    obtain ⟨v, b1, b, b2, g1, rfl, g3, _, g5⟩ := RXs.pick _ h1 i x.2 (getE hi)
    refine ⟨h.w0, h.fm, b1 ++ b2, by simpa only [erase_map] using g5, ?_, fun p hp => h3 p ?_⟩
    · have hn := List.nodup_append.1 h2
      have hn2 := List.nodup_append.1 hn.2.1
      exact List.nodup_append.2 ⟨hn.1, hn2.2.1, fun x hx y hy => hn.2.2 x hx y (by simp [hy])⟩
    · rcases List.mem_append.1 hp with hp | hp <;> simp [hp]
theorem SL.leaf (h : SL B L H) (a : AV) : SL B ((a, .at a) :: L) H :=
  h.push (b' := []) (by simp [RX]) List.nodup_nil (by simp) ⟨fun b ver _ => fun _ hk => hk, h.fm.wf, Nat.le_refl _, Nat.le_refl _⟩
theorem SL.isLeaf (h : SL B L H) {i : Nat} {v a : AV} (hi : L[i]? = some (v, .at a)) : v = a := by
  obtain ⟨bs, h1, h2, h3⟩ := h.rx
  obtain ⟨v', b1, b, b2, g1, rfl, g3, _, g5⟩ := RXs.pick _ h1 i _ (getE hi)
  rw [getE hi] at g1
  cases g1
  simp only [RX] at g3
  exact g3.1
/-- A value comes to the front. -/
theorem SL.front (h : SL B L H) {i : Nat} {x : AV × Tr} (hi : L[i]? = some x) : SL B (x :: L.eraseIdx i) H := by
  obtain ⟨bs, h1, h2, h3⟩ := h.rx
  obtain ⟨v, b1, b, b2, g1, rfl, g3, _, g5⟩ := RXs.pick _ h1 i x.2 (getE hi)
  rw [getE hi] at g1
  cases g1
  refine ⟨h.w0, h.fm, b ++ (b1 ++ b2), ?_, nodup_perm h2 (fun x => by simp only [List.count_append]; omega), fun p hp => h3 p ?_⟩
  · simp only [List.map_cons, RXs, ← erase_map]
    exact ⟨x.1, _, b, b1 ++ b2, rfl, g3, g5, rfl⟩
  · simp only [List.mem_append] at hp ⊢
    rcases hp with h | h | h <;> simp [h]
/-! ### structs and tuples are opened, and closed -/
theorem SL.openA (h : SL B L H) {i : Nat} {v : AV} {ts : List Tr} (hi : L[i]? = some (v, .agg ts)) : ∃ vs, v = .agg vs ∧ vs.length = ts.length ∧ SL B (vs.zip ts ++ L.eraseIdx i) H := by
  have h' := h.front hi
  obtain ⟨bs, h1, h2, h3⟩ := h'.rx
  simp only [List.map_cons, RXs, RX] at h1
  obtain ⟨v', vs', b1, b2, e, ⟨vs, rfl, hr⟩, hr2, rfl⟩ := h1
  cases e
  have hl := RXs.len _ hr
  refine ⟨vs, rfl, hl, h.w0, h.fm, b1 ++ b2, ?_, h2, h3⟩
  rw [List.map_append, List.map_append, List.map_fst_zip (by omega), List.map_snd_zip (by omega)]
  exact (RXs.app _ _).2 ⟨vs, _, b1, b2, rfl, rfl, hr, hr2⟩
theorem SL.openT (h : SL B L H) {i : Nat} {v : AV} {ts : List Tr} (hi : L[i]? = some (v, .tup ts)) : ∃ vs, v = .tup vs ∧ vs.length = ts.length ∧ SL B (vs.zip ts ++ L.eraseIdx i) H := by
  have h' := h.front hi
  obtain ⟨bs, h1, h2, h3⟩ := h'.rx
  simp only [List.map_cons, RXs, RX] at h1
  obtain ⟨v', vs', b1, b2, e, ⟨vs, rfl, hr⟩, hr2, rfl⟩ := h1
  cases e
  have hl := RXs.len _ hr
  refine ⟨vs, rfl, hl, h.w0, h.fm, b1 ++ b2, ?_, h2, h3⟩
  rw [List.map_append, List.map_append, List.map_fst_zip (by omega), List.map_snd_zip (by omega)]
  exact (RXs.app _ _).2 ⟨vs, _, b1, b2, rfl, rfl, hr, hr2⟩
theorem SL.closeA {es : Lo} (h : SL B (es ++ L) H) : SL B ((.agg (es.map Prod.fst), .agg (es.map Prod.snd)) :: L) H := by
  obtain ⟨bs, h1, h2, h3⟩ := h.rx
  rw [List.map_append, List.map_append] at h1
  obtain ⟨v1, v2, b1, b2, e, rfl, r1, r2⟩ := (RXs.app _ _).1 h1
  have hl := RXs.len _ r1
  obtain ⟨rfl, rfl⟩ := List.append_inj e (by simp at hl ⊢; omega)
  refine ⟨h.w0, h.fm, b1 ++ b2, ?_, h2, h3⟩
  simp only [List.map_cons, RXs, RX]
  exact ⟨_, _, b1, b2, rfl, ⟨_, rfl, r1⟩, r2, rfl⟩
theorem SL.closeT {es : Lo} (h : SL B (es ++ L) H) : SL B ((.tup (es.map Prod.fst), .tup (es.map Prod.snd)) :: L) H := by
  obtain ⟨bs, h1, h2, h3⟩ := h.rx
  rw [List.map_append, List.map_append] at h1
  obtain ⟨v1, v2, b1, b2, e, rfl, r1, r2⟩ := (RXs.app _ _).1 h1
  have hl := RXs.len _ r1
  obtain ⟨rfl, rfl⟩ := List.append_inj e (by simp at hl ⊢; omega)
  refine ⟨h.w0, h.fm, b1 ++ b2, ?_, h2, h3⟩
  simp only [List.map_cons, RXs, RX]
  exact ⟨_, _, b1, b2, rfl, ⟨_, rfl, r1⟩, r2, rfl⟩
/-! ### cells -/
def Tr.cs? : Tr → Option (List Tr)
  | .sl _ _ _ cs => some cs
  | .bx cs => some cs
  | _ => none
def Tr.wc (t : Tr) (cs : List Tr) : Tr := match t with
  | .sl n es f _ => .sl n es f cs
  | .bx _ => .bx cs
  | t => t
def Tr.hd (t : Tr) (b ver : Nat) : AV := match t with
  | .sl n es f _ => .sl b ver 0 n es f
  | _ => .ptr b ver 0
def blkOf : AV → Option (Nat × Nat)
  | .sl b ver _ _ _ _ => some (b, ver)
  | .ptr b ver _ => some (b, ver)
  | _ => none
theorem RX.cells {t : Tr} {cs : List Tr} (hc : t.cs? = some cs) {u : AV} {bs : List (Nat × Nat)} : RX H t u bs ↔ ∃ b ver vs bs', u = t.hd b ver ∧ H.at b ver = some ⟨ver, vs, true, true⟩ ∧ RXs H cs vs bs' ∧ bs = bs' ++ [(b, ver)] := by
  cases t <;> simp only [Tr.cs?, Option.some.injEq] at hc <;> first | (cases hc; done) | (subst hc; simp only [RX, Tr.hd])
theorem Tr.wc_cs {t : Tr} {cs : List Tr} (hc : t.cs? = some cs) (cs' : List Tr) : (t.wc cs').cs? = some cs' ∧ ∀ b ver, (t.wc cs').hd b ver = t.hd b ver := by
  cases t <;> simp only [Tr.cs?, Option.some.injEq] at hc <;> first | (cases hc; done) | (exact ⟨rfl, fun _ _ => rfl⟩)
theorem blk_hd {t : Tr} {b ver b' ver' : Nat} {u : AV} (h : u = t.hd b ver) (hu : blkOf u = some (b', ver')) : b = b' ∧ ver = ver' := by
  subst h
  cases t <;> simp only [Tr.hd, blkOf, Option.some.injEq, Prod.mk.injEq] at hu <;> exact hu
/-- What is read out of a value's cells. -/
theorem SL.cells (h : SL B L H) {i : Nat} {u : AV} {t : Tr} {cs : List Tr} (hi : L[i]? = some (u, t)) (hc : t.cs? = some cs) {b ver : Nat} (hu : blkOf u = some (b, ver)) : ∃ vs bs', H.at b ver = some ⟨ver, vs, true, true⟩ ∧ RXs H cs vs bs' := by
  obtain ⟨bs, h1, h2, h3⟩ := h.rx
  obtain ⟨v', b1, b', b2, g1, rfl, g3, _, g5⟩ := RXs.pick _ h1 i _ (getE hi)
  rw [getE hi] at g1
  cases g1
  obtain ⟨b0, ver0, vs, bs', e, g6, g7, _⟩ := (RX.cells hc).1 g3
  obtain ⟨rfl, rfl⟩ := blk_hd e hu
  exact ⟨vs, bs', g6, g7⟩
theorem RXs.leafAt : ∀ (ts : List Tr) {vs : List AV} {bs : List (Nat × Nat)}, RXs H ts vs bs → ∀ {j : Nat} {a : AV}, ts[j]? = some (.at a) → vs[j]? = some a := by
  intro ts vs bs h j a hj
  obtain ⟨v, b1, b, b2, g1, _, g3, _, _⟩ := RXs.pick _ h j _ hj
  simp only [RX] at g3
  rw [g1, g3.1]
def lvs : List Tr → Option (List AV)
  | [] => some []
  | .at a :: l => (lvs l).map (a :: ·)
  | _ => none
theorem lvs_some : ∀ {l : List Tr} {m : List AV}, lvs l = some m → l = m.map .at := by
  intro l
  induction l with
  | nil => intro m h; cases h; rfl
  | cons t l ih =>
    intro m h
    cases t with
    | «at» a =>
      simp only [lvs] at h
      obtain ⟨m', h1, rfl⟩ := Option.map_eq_some_iff.1 h
      rw [ih h1]; rfl
    | _ => simp only [lvs] at h; cases h
def ldT (T : Tab) (ty : Nat) (cs : List Tr) (j : Nat) : Option AV := match T ty with
  | none => none
  | some i => match i.d with
    | .struct _ | .array _ _ => if j + i.size ≤ cs.length then (lvs ((cs.drop j).take i.size)).map .agg else none
    | _ => match cs[j]? with | some (.at a) => some a | _ => none
theorem RXs.leafEq : ∀ (ts : List Tr) {vs : List AV} {bs : List (Nat × Nat)} {m : List AV}, RXs H ts vs bs → ts = m.map .at → vs = m := by
  intro ts
  induction ts with
  | nil => intro vs bs m h e; cases m with | nil => simp only [RXs] at h; exact h.1 | cons _ _ => cases e
  | cons t ts ih =>
    intro vs bs m h e
    cases m with
    | nil => cases e
    | cons a m =>
      simp only [List.map_cons, List.cons.injEq] at e
      obtain ⟨rfl, e⟩ := e
      simp only [RXs, RX] at h
      obtain ⟨v, vs', b1, b2, rfl, ⟨rfl, _⟩, h2, _⟩ := h
      rw [ih h2 e]
theorem RXs.dropTake (ts : List Tr) {vs : List AV} {bs : List (Nat × Nat)} (h : RXs H ts vs bs) (j n : Nat) : ∃ bs', RXs H ((ts.drop j).take n) ((vs.drop j).take n) bs' := by
  have hl := RXs.len _ h
  have e1 : ts = ts.take j ++ ts.drop j := (List.take_append_drop j ts).symm
  rw [e1] at h
  obtain ⟨v1, v2, b1, b2, rfl, rfl, r1, r2⟩ := (RXs.app _ _).1 h
  have hl1 := RXs.len _ r1
  have e2 : ts.drop j = (ts.drop j).take n ++ (ts.drop j).drop n := (List.take_append_drop n _).symm
  have hv : (v1 ++ v2).drop j = v2 := by
    have hl2 := RXs.len _ r2
    simp only [List.length_take, List.length_drop] at hl1 hl2
    by_cases hj : j ≤ ts.length
    · rw [List.drop_left' (by omega)]
    · rw [List.drop_of_length_le (by simp; omega)]
      exact (List.eq_nil_of_length_eq_zero (by omega)).symm
  rw [hv]
  rw [e2] at r2
  obtain ⟨w1, w2, c1, c2, rfl, rfl, q1, q2⟩ := (RXs.app _ _).1 r2
  have hm1 := RXs.len _ q1
  have hm2 := RXs.len _ q2
  have : (w1 ++ w2).take n = w1 := by
    simp only [List.length_take, List.length_drop] at hm1 hm2
    by_cases hn : n ≤ ts.length - j
    · rw [List.take_left' (by omega)]
    · have : w2 = [] := List.eq_nil_of_length_eq_zero (by omega)
      subst this
      rw [List.append_nil, List.take_of_length_le (by omega)]
  rw [this]
  exact ⟨c1, q1⟩
theorem SL.load (h : SL B L H) (i : Nat) {u : AV} {t : Tr} {cs : List Tr} (hi : L[i]? = some (u, t)) (hc : t.cs? = some cs) {b ver : Nat} (hu : blkOf u = some (b, ver)) {T : Tab} {ty j : Nat} {v : AV} (hl : ldT T ty cs j = some v) : aload T ty (.ptr b ver j) H = some v := by
  obtain ⟨vs, bs', h1, h2⟩ := h.cells hi hc hu
  have hlen := RXs.len _ h2
  unfold ldT at hl
  simp only [aload]
  cases hT : T ty with
  | none => rw [hT] at hl; cases hl
  | some ti =>
    rw [hT] at hl
    simp only [h1] at hl ⊢
    have agg : (if j + ti.size ≤ cs.length then (lvs ((cs.drop j).take ti.size)).map AV.agg else none) = some v → (if j + ti.size ≤ vs.length then some (AV.agg ((vs.drop j).take ti.size)) else none) = some v := by
      intro e
      split at e
      · rename_i hle
        obtain ⟨m, hm, rfl⟩ := Option.map_eq_some_iff.1 e
        obtain ⟨_, hd⟩ := RXs.dropTake _ h2 j ti.size
        rw [if_pos (by omega), RXs.leafEq _ hd (lvs_some hm)]
      · cases e
    have one : (match cs[j]? with | some (.at a) => some a | _ => none) = some v → vs[j]? = some v := by
      intro e
      split at e
      · rename_i a ha
        cases e
        exact RXs.leafAt _ h2 ha
      · cases e
    cases hd : ti.d <;> simp only [hd] at hl ⊢ <;> first | exact agg hl | exact one hl
def setT : List Tr → Nat → List AV → List Tr
  | l, _, [] => l
  | l, i, v :: vs => setT (l.set i (.at v)) (i + 1) vs
theorem RXs.setT {xs : List AV} : ∀ (ts : List Tr) {vs : List AV} {bs : List (Nat × Nat)} (j : Nat), RXs H ts vs bs → bs.Nodup → j + xs.length ≤ ts.length → ∃ bs', RXs H (Pq.setT ts j xs) (setAll vs j xs) bs' ∧ bs'.Nodup ∧ ∀ p ∈ bs', p ∈ bs := by
  induction xs with
  | nil => intro ts vs bs j h hn _; exact ⟨bs, h, hn, fun p hp => hp⟩
  | cons x xs ih =>
    intro ts vs bs j h hn hl
    simp only [List.length_cons] at hl
    have hj : ts[j]? = some ts[j] := List.getElem?_eq_getElem (by omega)
    obtain ⟨v, b1, b, b2, g1, rfl, g3, g4, _⟩ := RXs.pick _ h j _ hj
    have r := g4 H (.at x) x [] (by simp [RX]) (fun p _ _ hk => hk)
    have hn1 := List.nodup_append.1 hn
    have hn2 := List.nodup_append.1 hn1.2.1
    have n' : (b1 ++ ([] ++ b2)).Nodup := by
      simp only [List.nil_append]
      exact List.nodup_append.2 ⟨hn1.1, hn2.2.1, fun x hx y hy => hn1.2.2 x hx y (by simp [hy])⟩
    obtain ⟨bs', q1, q2, q3⟩ := ih _ (j + 1) r n' (by simp; omega)
    refine ⟨bs', q1, q2, fun p hp => ?_⟩
    have := q3 p hp
    simp only [List.nil_append, List.mem_append] at this ⊢
    rcases this with h | h <;> simp [h]
def stT (T : Tab) (ty : Nat) (cs : List Tr) (j : Nat) (x : AV) : Option (List Tr) := match T ty with
  | none => none
  | some i => if x.cells.length = i.size ∧ j + i.size ≤ cs.length ∧ x.cells.all AV.one = true then some (setT cs j x.cells) else none
theorem put_stp {b ver : Nat} {k : Blk} (hw : Wf H) (hk : H.at b ver = some k) (cs : List AV) (bi : List (Nat × Nat)) (hm : (b, ver) ∈ bi) : Stp bi H (H.put b ⟨ver, cs, true, true⟩) := by
  refine ⟨fun b' ver' hn => Keeps.put2 hk (fun e => hn (by rw [e]; exact hm)), fun i k' hi => ?_, Nat.le_refl _, by simp [Hp.put]⟩
  obtain ⟨g1, g2⟩ := Hp.at_some hk
  have hb := (List.getElem?_eq_some_iff.1 g1).1
  simp only [Hp.put] at hi ⊢
  by_cases hib : b = i
  · subst hib
    simp [hb] at hi
    subst hi
    have := hw b _ g1
    show ver < H.c
    omega
  · rw [List.getElem?_set_ne hib] at hi
    exact hw i k' hi
theorem SL.store (h : SL B L H) (i : Nat) {u : AV} {t : Tr} {cs cs' : List Tr} (hi : L[i]? = some (u, t)) (hc : t.cs? = some cs) {b ver : Nat} (hu : blkOf u = some (b, ver)) {T : Tab} {ty j : Nat} {x : AV} (hx : stT T ty cs j x = some cs') :
    ∃ H', astore T ty (.ptr b ver j) x H = some H' ∧ SL B (L.set i (u, t.wc cs')) H' := by
  obtain ⟨vs, bs', h1, h2⟩ := h.cells hi hc hu
  have hlen := RXs.len _ h2
  unfold stT at hx
  cases hT : T ty with
  | none => rw [hT] at hx; cases hx
  | some ti =>
    rw [hT] at hx
    simp only at hx
    split at hx
    rotate_left
    · cases hx
    rename_i hcond
    cases hx
    refine ⟨H.put b ⟨ver, setAll vs j x.cells, true, true⟩, ?_, h.upd i hi fun bi hr hn => ?_⟩
    · simp only [astore, hT, h1]
      rw [if_pos ⟨trivial, hcond.1, by omega, hcond.2.2⟩]
    · obtain ⟨b0, ver0, vs0, bs0, e, g6, g7, rfl⟩ := (RX.cells hc).1 hr
      obtain ⟨rfl, rfl⟩ := blk_hd e hu
      rw [h1] at g6
      cases g6
      have hn1 := List.nodup_append.1 hn
      obtain ⟨bs1, q1, q2, q3⟩ := RXs.setT (xs := x.cells) _ j g7 hn1.1 (by omega)
      obtain ⟨w1, w2⟩ := Tr.wc_cs hc (setT cs j x.cells)
      have hst := put_stp h.fm.wf h1 (setAll vs j x.cells) (bs0 ++ [(b0, ver0)]) (by simp)
      refine ⟨bs1 ++ [(b0, ver0)], (RX.cells w1).2 ⟨b0, ver0, setAll vs j x.cells, bs1, by rw [w2]; exact e, at_put_same h1 rfl, ?_, rfl⟩, ?_, fun p hp => .inl ?_, hst⟩
      · refine RXs.keep _ (fun p hp => Keeps.put2 h1 fun e => ?_) q1
        exact hn1.2.2 p (q3 p hp) (b0, ver0) (by simp) e
      · exact List.nodup_append.2 ⟨q2, by simp, fun x hx y hy => hn1.2.2 x (q3 x hx) y hy⟩
      · simp only [List.mem_append] at hp ⊢
        exact hp.imp (q3 p) id
/-- A cell's value becomes one of its own. -/
theorem SL.unfold (h : SL B L H) (i : Nat) {u : AV} {t tj : Tr} {cs : List Tr} (hi : L[i]? = some (u, t)) (hc : t.cs? = some cs) (j : Nat) (hj : cs[j]? = some tj) : ∃ v, SL B ((v, tj) :: L.set i (u, t.wc (cs.set j (.at v)))) H := by
  obtain ⟨bs, h1, h2, h3⟩ := h.rx
  obtain ⟨v, b1, b, b2, g1, rfl, g3, g4, _⟩ := RXs.pick _ h1 i t (getE hi)
  rw [getE hi] at g1
  cases g1
  obtain ⟨b0, ver0, vs0, bs0, e, g6, g7, rfl⟩ := (RX.cells hc).1 g3
  obtain ⟨x, c1, c, c2, k1, rfl, k3, k4, _⟩ := RXs.pick _ g7 j tj hj
  have r := k4 H (.at x) x [] (by simp [RX]) (fun p _ _ hk => hk)
  have hset : vs0.set j x = vs0 := set_get k1
  rw [hset] at r
  obtain ⟨w1, w2⟩ := Tr.wc_cs hc (cs.set j (.at x))
  have r2 := g4 H _ u (c1 ++ ([] ++ c2) ++ [(b0, ver0)]) ((RX.cells w1).2 ⟨b0, ver0, vs0, _, by rw [w2]; exact e, g6, r, rfl⟩) (fun p _ _ hk => hk)
  refine ⟨x, h.w0, h.fm, c ++ (b1 ++ (c1 ++ ([] ++ c2) ++ [(b0, ver0)] ++ b2)), ?_, nodup_perm h2 (fun x => by simp only [List.count_append, List.count_nil]; omega), fun p hp => h3 p ?_⟩
  · simp only [List.map_cons, RXs, List.map_set]
    exact ⟨x, _, c, _, rfl, k3, r2, rfl⟩
  · simp only [List.mem_append, List.nil_append] at hp ⊢
    rcases hp with h | h | ((h | h) | h) | h <;> simp [h]
/-- A value goes into its cell. -/
theorem SL.fold (h : SL B L H) (i j k : Nat) {u v : AV} {t tk : Tr} {cs : List Tr} (hi : L[i]? = some (u, t)) (hc : t.cs? = some cs) (hj : cs[j]? = some (.at v)) (hk : L[k]? = some (v, tk)) (hik : i ≠ k) : SL B ((L.set i (u, t.wc (cs.set j tk))).eraseIdx k) H := by
  obtain ⟨bs, h1, h2, h3⟩ := h.rx
  obtain ⟨u', b1, b, b2, g1, rfl, g3, g4, _⟩ := RXs.pick _ h1 i t (getE hi)
  rw [getE hi] at g1
  cases g1
  obtain ⟨b0, ver0, vs0, bs0, e, g6, g7, rfl⟩ := (RX.cells hc).1 g3
  obtain ⟨x, c1, c, c2, k1, rfl, k3, k4, _⟩ := RXs.pick _ g7 j _ hj
  simp only [RX] at k3
  obtain ⟨rfl, rfl⟩ := k3
  have hset : vs0.set j x = vs0 := set_get k1
  -- the value, out of the list
  have same := g4 H t u (c1 ++ ([] ++ c2) ++ [(b0, ver0)]) g3 (fun p _ _ hk => hk)
  have hsk : (L.map Prod.snd).set i t = L.map Prod.snd := by
    refine List.ext_getElem? fun n => ?_
    by_cases hn : i = n
    · subst hn
      have := (List.getElem?_eq_some_iff.1 hi).1
      rw [List.getElem?_set_self (by simpa using this), getE hi]
    · rw [List.getElem?_set_ne hn]
  have hkk : ((L.map Prod.snd).set i (t.wc (cs.set j tk)))[k]? = some tk := by rw [List.getElem?_set_ne hik, getE hk]
  -- the footprint of k
  obtain ⟨v', d1, d, d2, m1, m2, m3, m4, m5⟩ := RXs.pick _ h1 k tk (getE hk)
  rw [getE hk] at m1
  cases m1
  have r := k4 H tk x d m3 (fun p _ _ hk => hk)
  rw [hset] at r
  obtain ⟨w1, w2⟩ := Tr.wc_cs hc (cs.set j tk)
  have r2 := g4 H _ u (c1 ++ (d ++ c2) ++ [(b0, ver0)]) ((RX.cells w1).2 ⟨b0, ver0, vs0, _, by rw [w2]; exact e, g6, r, rfl⟩) (fun p _ _ hk => hk)
  obtain ⟨v', f1, f, f2, n1, n2, n3, n4, n5⟩ := RXs.pick _ r2 k tk hkk
  have hfp : ∀ y, (f1 ++ f2).count y + f.count y = (b1 ++ (c1 ++ (d ++ c2) ++ [(b0, ver0)] ++ b2)).count y := by
    intro y; rw [n2]; simp only [List.count_append]; omega
  have hmp : ∀ y, d1.count y + d.count y + d2.count y = b1.count y + (c1.count y + c2.count y + [(b0, ver0)].count y + b2.count y) := by
    intro y
    have := congrArg (List.count y) m2
    simp only [List.count_append, List.count_nil] at this
    omega
  -- two footprints of one value are the same
  have fd : ∀ y, f.count y = d.count y := by
    intro y
    have : v' = x := by
      rw [List.getElem?_set_ne hik, getE hk] at n1
      exact (Option.some.inj n1).symm
    subst this
    rw [RX.uniq tk n3 m3]
  refine ⟨h.w0, h.fm, f1 ++ f2, ?_, ?_, ?_⟩
  · rw [← erase_map, ← erase_map, List.map_set, List.map_set]
    exact n5
  · refine nodup_perm h2 fun y => ?_
    have e1 := hfp y
    have e2 := hmp y
    have e3 := fd y
    simp only [List.count_append, List.count_nil] at e1 ⊢
    omega
  · intro p hp
    refine h3 p ?_
    have hc1 : 0 < (f1 ++ f2).count p := List.count_pos_iff.2 hp
    have e1 := hfp p
    have e2 := hmp p
    have e3 := fd p
    refine List.count_pos_iff.1 ?_
    simp only [List.count_append, List.count_nil] at e1 hc1 ⊢
    omega
/-! ### new blocks -/
theorem SL.nil {H : Hp} (hw : Wf H) (A : List (Nat × Nat)) : SL ⟨H, A⟩ [] H := ⟨hw, ⟨fun _ _ h _ => h, hw, Nat.le_refl _, Nat.le_refl _⟩, [], by simp [RXs], List.nodup_nil, by simp⟩
theorem new_stp (hw : Wf H) (cells : List AV) : Stp [] H (H.new cells) := ⟨fun b ver _ k hk => at_new hk cells, hw.new cells, Nat.le_succ _, by simp [Hp.new]⟩
theorem SL.new (h : SL B L H) (t : Tr) (cells : List AV) (hc : t.cs? = some (cells.map .at)) : SL B ((t.hd H.bs.length H.c, t) :: L) (H.new cells) := by
  refine h.push (b' := [(H.bs.length, H.c)]) ((RX.cells hc).2 ⟨_, _, cells, [], rfl, new_at _ _, RXs.leaves _, rfl⟩) (by simp) (by simp) (new_stp h.fm.wf _)
mutual
theorem mk_rx : ∀ (t : Tr) {H : Hp}, Wf H → ∃ bs, RX (mk t H).2 t (mk t H).1 bs ∧ Fresh H.c (mk t H).2.c bs ∧ Ext H (mk t H).2
  | .at a, H, hw => ⟨[], by simp only [RX, mk]; exact ⟨trivial, trivial⟩, Fresh.nil _ _, Ext.refl hw⟩
  | .sl n es full cs, H, hw => by
    obtain ⟨bs, h1, h2, h3⟩ := mks_rx cs hw
    simp only [mk, RX]
    refine ⟨bs ++ [((mks cs H).2.bs.length, (mks cs H).2.c)], ⟨_, _, _, bs, rfl, new_at _ _, RXs.keep _ (fun p _ => Keeps.pre (Pre.new (Pre.refl _) _) p.1 p.2) h1, rfl⟩, ?_, h3.new _⟩
    exact h2.app (Fresh.one (Nat.le_refl _) (Nat.lt_succ_self _)) h3.c (Nat.le_succ _)
  | .bx cs, H, hw => by
    obtain ⟨bs, h1, h2, h3⟩ := mks_rx cs hw
    simp only [mk, RX]
    refine ⟨bs ++ [((mks cs H).2.bs.length, (mks cs H).2.c)], ⟨_, _, _, bs, rfl, new_at _ _, RXs.keep _ (fun p _ => Keeps.pre (Pre.new (Pre.refl _) _) p.1 p.2) h1, rfl⟩, ?_, h3.new _⟩
    exact h2.app (Fresh.one (Nat.le_refl _) (Nat.lt_succ_self _)) h3.c (Nat.le_succ _)
  | .agg cs, H, hw => by
    obtain ⟨bs, h1, h2, h3⟩ := mks_rx cs hw
    simp only [mk, RX]
    exact ⟨bs, ⟨_, rfl, h1⟩, h2, h3⟩
  | .tup cs, H, hw => by
    obtain ⟨bs, h1, h2, h3⟩ := mks_rx cs hw
    simp only [mk, RX]
    exact ⟨bs, ⟨_, rfl, h1⟩, h2, h3⟩
theorem mks_rx : ∀ (l : List Tr) {H : Hp}, Wf H → ∃ bs, RXs (mks l H).2 l (mks l H).1 bs ∧ Fresh H.c (mks l H).2.c bs ∧ Ext H (mks l H).2
  | [], H, hw => ⟨[], by simp only [RXs, mks]; exact ⟨trivial, trivial⟩, Fresh.nil _ _, Ext.refl hw⟩
  | t :: l, H, hw => by
    obtain ⟨b1, h1, h2, h3⟩ := mk_rx t hw
    obtain ⟨b2, g1, g2, g3⟩ := mks_rx l (H := (mk t H).2) h3.wf
    simp only [mks, RXs]
    exact ⟨b1 ++ b2, ⟨_, _, b1, b2, rfl, RX.keep t (fun p _ => Keeps.pre g3.pre p.1 p.2) h1, g1, rfl⟩, h2.app g2 h3.c g3.c, h3.trans g3⟩
end
mutual
theorem mk_len : ∀ (t : Tr) (H : Hp), H.bs.length ≤ (mk t H).2.bs.length
  | .at a, H => Nat.le_refl _
  | .sl n es full cs, H => by simp only [mk, Hp.new, List.length_append]; exact Nat.le_trans (mks_len cs H) (Nat.le_add_right _ _)
  | .bx cs, H => by simp only [mk, Hp.new, List.length_append]; exact Nat.le_trans (mks_len cs H) (Nat.le_add_right _ _)
  | .agg cs, H => mks_len cs H
  | .tup cs, H => mks_len cs H
theorem mks_len : ∀ (l : List Tr) (H : Hp), H.bs.length ≤ (mks l H).2.bs.length
  | [], H => Nat.le_refl _
  | t :: l, H => by simp only [mks]; exact Nat.le_trans (mk_len t H) (mks_len l _)
end
/-- What a call has handed back. -/
theorem SL.called (h : SL B L H) (t : Tr) : SL B (((Pq.mk t H).1, t) :: L) (Pq.mk t H).2 := by
  obtain ⟨bs, h1, h2, h3⟩ := mk_rx t h.fm.wf
  exact h.push h1 h2.1 (fun p hp => (h2.2 p hp).1) (Stp.of h3.pre h3.wf h3.c (mk_len t H))
/-! ### lists of numbers -/
def trInts : List Tr → Option (List Int)
  | [] => some []
  | .at (.int .i64 n) :: l => (trInts l).map (n :: ·)
  | _ => none
def numsT : Tr → Option (List Int)
  | .at .nilS => some []
  | .sl n es _ cs => if es = 1 ∧ n = cs.length ∧ n ≤ 1152921504606846976 then trInts cs else none
  | _ => none
theorem trInts_some : ∀ {cs : List Tr} {l : List Int}, trInts cs = some l → cs = trI l := by
  intro cs
  induction cs with
  | nil => intro l h; cases h; rfl
  | cons t cs ih =>
    intro l h
    unfold trInts at h
    split at h
    · rename_i e; cases e
    · rename_i n cs' e
      cases e
      obtain ⟨l', h1, rfl⟩ := Option.map_eq_some_iff.1 h
      rw [ih h1]; rfl
    · cases h
theorem trInts_I (l : List Int) : trInts (trI l) = some l := by
  induction l with
  | nil => rfl
  | cons a l ih => simp only [trI, List.map_cons, trInts] at ih ⊢; rw [ih]; rfl
theorem numsT_F {l : List Int} (h : l.length ≤ 1152921504606846976) : numsT (trF l) = some l := by
  simp only [trF, numsT]; rw [if_pos ⟨trivial, by simp [trI], h⟩, trInts_I]
theorem numsT_S {l : List Int} (h : l.length ≤ 1152921504606846976) : numsT (trS l) = some l := by
  unfold trS; split
  · rename_i e; subst e; rfl
  · simp only [numsT]; rw [if_pos ⟨trivial, by simp [trI], h⟩, trInts_I]
theorem numsT_C {l : List Int} (h : l.length ≤ 1152921504606846976) : numsT (trC l) = some l := by
  unfold trC; split
  · rename_i e; subst e; exact numsT_F h
  · exact numsT_S h
theorem RX.ints {t : Tr} {l : List Int} (hn : numsT t = some l) {u : AV} {bs : List (Nat × Nat)} (h : RX H t u bs) : Pq.ints H u = some l := by
  unfold numsT at hn
  split at hn
  · cases hn; simp only [RX] at h; rw [h.1]; rfl
  · rename_i n es f cs
    split at hn
    · rename_i hc
      obtain ⟨rfl, rfl, hb⟩ := hc
      have := trInts_some hn
      subst this
      simp only [RX] at h
      obtain ⟨b, ver, vs, bs', rfl, h1, h2, _⟩ := h
      have hv : vs = l.map (.int .i64) := RXs.leafEq _ h2 (by simp [trI])
      subst hv
      simp only [trI, List.length_map] at hb
      simp only [Pq.ints, trI, List.length_map, h1, List.drop_zero]
      rw [if_pos ⟨trivial, hb⟩, if_pos (by simp), List.take_of_length_le (by simp), toInts_map]
    · cases hn
  · cases hn
theorem SL.ints (h : SL B L H) (i : Nat) {u : AV} {t : Tr} {l : List Int} (hi : L[i]? = some (u, t)) (hn : numsT t = some l) : Pq.ints H u = some l := by
  obtain ⟨bs, h1, h2, h3⟩ := h.rx
  obtain ⟨v', b1, b', b2, g1, rfl, g3, _, g5⟩ := RXs.pick _ h1 i _ (getE hi)
  rw [getE hi] at g1
  cases g1
  exact RX.ints hn g3
/-- A number of an own list is written. -/
theorem SL.storeI (h : SL B L H) (i : Nat) {f : Bool} {u : AV} {l : List Int} (hi : L[i]? = some (u, trB f l)) {t : Nat} (ht : t = 3 ∨ t = 2) (j : Nat) (hj : j < l.length) (x : Int) :
    ∃ H', astore T t (pAt u j) (.int .i64 x) H = some H' ∧ SL B (L.set i (u, trB f (l.set j x))) H' := by
  obtain ⟨bs, h1, h2, h3⟩ := h.rx
  obtain ⟨v', b1, b', b2, g1, e, g3, _, g5⟩ := RXs.pick _ h1 i _ (getE hi)
  rw [getE hi] at g1
  cases g1
  have hr := RX.rep (c := 0) _ (by cases f <;> simp [trB, okT_F, okT_S]) (by simp) g3
  obtain ⟨H', e1, e2, e3, e4, e5⟩ := rep_store ht hr j hj x
  have hx := e4 ⟨[], 0⟩ (by intro b k hk; simp at hk) ⟨by intro b k hk; simp at hk, h.fm.wf, Nat.zero_le _⟩ (Nat.le_refl _)
  refine ⟨H', e1, h.upd i hi fun bi hr1 hn => ?_⟩
  have : bi = b' := RX.uniq _ hr1 g3
  subst this
  have hlen : H.bs.length ≤ H'.bs.length := by
    have : H'.bs.length = H.bs.length := by
      unfold astore at e1
      split at e1
      · split at e1
        · split at e1
          · cases e1; simp [Hp.put]
          · cases e1
        · cases e1
      · cases e1
    omega
  exact ⟨bi, (RX.of _ e2).1, hn, fun p hp => .inl hp, e3, hx.wf, by omega, hlen⟩
/-! ### append -/
theorem aapp_core {t e es n m : Nat} {ie : TI} {u y : AV} {cs : List Tr} {xs : List AV} {bi : List (Nat × Nat)} (hw : Wf H) (hD : T.d t = .slice e) (hT : T e = some ie) (hes : ie.size = es) (hb0 : ie.bytes ≠ 0) (hu : RX H (trG n es cs) u bi)
    (hy : slCells H y = some (m, xs)) (hcs : cs.length = n * es) (hxl : xs.length = m * es) (hm : m ≠ 0) (hl : (n + m) * ie.bytes ≤ maxBytes) :
    ∃ u' H' ci b', aapp T false t t u y H = some (u', H') ∧ (∀ x, ci.count x ≤ bi.count x) ∧ (∀ p ∈ ci, p ∈ bi) ∧ Stp bi H H' ∧ H.c < H'.c ∧
      ∀ xt cx, RXs H xt xs cx → (∀ p ∈ cx, p ∉ bi) → bi.Nodup → RX H' (trG (n + m) es (cs ++ xt)) u' (ci ++ cx ++ [(b', H.c)]) := by
  have hnm : n + m ≠ 0 := by omega
  by_cases hn : n = 0
  · subst hn
    have hcs0 : cs = [] := List.eq_nil_of_length_eq_zero (by simpa using hcs)
    subst hcs0
    simp only [trG, if_true, RX] at hu
    obtain ⟨rfl, rfl⟩ := hu
    refine ⟨.sl H.bs.length H.c 0 m es false, H.new xs, [], H.bs.length, ?_, by simp, by simp, new_stp hw xs, Nat.lt_succ_self _, fun xt cx hx _ _ => ?_⟩
    · simp only [aapp, hD, hT, Option.bind_some, aappend, hy, hes]
      rw [if_neg (by simp [hxl]), if_neg hm, if_pos ⟨by simpa using hl, hb0⟩]
    · rw [Nat.zero_add]
      simp only [trG, if_neg hm, RX, List.nil_append]
      exact ⟨_, _, xs, cx, rfl, new_at _ _, RXs.keep _ (fun p _ _ hk => at_new hk xs) hx, rfl⟩
  · simp only [trG, if_neg hn, RX] at hu
    obtain ⟨b, ver, vs, ci, rfl, hk, hr, rfl⟩ := hu
    have hvl := RXs.len _ hr
    obtain ⟨g1, g2⟩ := Hp.at_some hk
    have hb := (List.getElem?_eq_some_iff.1 g1).1
    have hst : Stp (ci ++ [(b, ver)]) H ⟨H.bs.set b ⟨H.c, vs ++ xs, true, true⟩, H.c + 1⟩ := by
      refine ⟨fun b1 v1 hne k hk1 => ?_, fun i k' hi => ?_, Nat.le_succ _, by simp⟩
      · have hbb : b1 ≠ b := by
          rintro rfl
          obtain ⟨q1, q2⟩ := Hp.at_some hk1
          rw [g1] at q1
          cases q1
          exact hne (by rw [← q2]; simp)
        simp only [Hp.at] at hk1 ⊢
        rw [List.getElem?_set_ne (fun e => hbb e.symm)]
        exact hk1
      · by_cases hib : b = i
        · subst hib
          simp [hb] at hi
          subst hi
          exact Nat.lt_succ_self _
        · simp only [List.getElem?_set_ne hib] at hi
          exact Nat.lt_succ_of_lt (hw i k' hi)
    refine ⟨.sl b H.c 0 (n + m) es false, _, ci, b, ?_, fun x => by simp, fun p hp => by simp [hp], hst, Nat.lt_succ_self _, fun xt cx hx hd hnd => ?_⟩
    · simp only [aapp, hD, hT, Option.bind_some, aappend, hy, hk, hes]
      rw [if_neg (by simp [hxl]), if_neg hm, if_neg (by simp only [ne_eq, not_true_eq_false, false_or]; rw [hvl, hcs]; omega), if_neg (by simp), if_pos (by simp [hvl, hcs])]
      simp
    · simp only [trG, if_neg hnm, RX]
      have hnd' := List.nodup_append.1 hnd
      refine ⟨b, H.c, vs ++ xs, ci ++ cx, rfl, by simp [Hp.at, hb], (RXs.app _ _).2 ⟨vs, xs, ci, cx, rfl, rfl, ?_, ?_⟩, rfl⟩
      · refine RXs.keep _ (fun p hp k hk1 => ?_) hr
        have hpb : p.1 ≠ b := by
          intro e
          obtain ⟨q1, q2⟩ := Hp.at_some hk1
          rw [e, g1] at q1
          cases q1
          exact hnd'.2.2 p hp (b, ver) (by simp) (Prod.ext e q2.symm)
        simp only [Hp.at] at hk1 ⊢
        rw [List.getElem?_set_ne (fun e => hpb e.symm)]
        exact hk1
      · refine RXs.keep _ (fun p hp k hk1 => ?_) hx
        have hpb : p.1 ≠ b := by
          intro e
          obtain ⟨q1, q2⟩ := Hp.at_some hk1
          rw [e, g1] at q1
          cases q1
          exact hd p hp (List.mem_append_right _ (List.mem_singleton.2 (Prod.ext e q2.symm)))
        simp only [Hp.at] at hk1 ⊢
        rw [List.getElem?_set_ne (fun e => hpb e.symm)]
        exact hk1
/-- An appended list grows; what is appended goes into it. -/
theorem SL.app (h : SL B L H) (i k : Nat) {t e es n m : Nat} {ie : TI} {f : Bool} {u y : AV} {cs xt : List Tr} (hD : T.d t = .slice e) (hT : T e = some ie) (hes : ie.size = es) (hb0 : ie.bytes ≠ 0) (hi : L[i]? = some (u, trG n es cs)) (hk : L[k]? = some (y, .sl m es f xt)) (hik : i ≠ k)
    (hcs : cs.length = n * es) (hxl : xt.length = m * es) (hm : m ≠ 0) (hl : (n + m) * ie.bytes ≤ maxBytes) :
    ∃ u' H', aapp T false t t u y H = some (u', H') ∧ SL B ((L.set i (u', trG (n + m) es (cs ++ xt))).eraseIdx k) H' := by
  obtain ⟨bs, h1, h2, h3⟩ := h.rx
  obtain ⟨v', d1, bk, d2, m1, em, m3, _, _⟩ := RXs.pick _ h1 k _ (getE hk)
  rw [getE hk] at m1
  cases m1
  have m3' := m3
  simp only [RX] at m3'
  obtain ⟨by_, vy, xs, cx, rfl, hyk, hyr, rfl⟩ := m3'
  have hxl' := RXs.len _ hyr
  have hy : slCells H (.sl by_ vy 0 m es f) = some (m, xs) := by
    simp only [slCells, hyk]
    rw [if_pos (by omega), List.drop_zero, List.take_of_length_le (by omega)]
  obtain ⟨v', b1, bi, b2, g1, rfl, g3, g4, g5⟩ := RXs.pick _ h1 i _ (getE hi)
  rw [getE hi] at g1
  cases g1
  obtain ⟨u', H', ci, b', e1, e2, e3, e4, e5, e6⟩ := aapp_core h.fm.wf hD hT hes hb0 g3 hy hcs (by omega) hm hl
  have hcount : ∀ x, b1.count x + (bi.count x + b2.count x) = d1.count x + (cx.count x + [(by_, vy)].count x + d2.count x) := by
    intro x
    have := congrArg (List.count x) em
    simpa only [List.count_append] using this
  have hone : ∀ x, b1.count x + (bi.count x + b2.count x) ≤ 1 := by
    intro x
    have := List.nodup_iff_count.1 h2 x
    simpa only [List.count_append] using this
  -- k is another one
  have hki : ∀ p ∈ cx ++ [(by_, vy)], p ∉ bi := by
    intro p hp hpi
    have hkk : ((L.map Prod.snd).set i (.at .bad))[k]? = some (.sl m es f xt) := by rw [List.getElem?_set_ne hik, getE hk]
    have r0 := g4 H (.at .bad) .bad [] (by simp [RX]) (fun p _ _ hk => hk)
    obtain ⟨v', f1, ff, f2, n1, n2, n3, _, _⟩ := RXs.pick _ r0 k _ hkk
    rw [List.getElem?_set_ne hik, getE hk] at n1
    cases n1
    rw [RX.uniq _ n3 m3] at n2
    have e0 := congrArg (List.count p) n2
    simp only [List.count_append, List.nil_append] at e0
    have h4 : 0 < (cx ++ [(by_, vy)]).count p := List.count_pos_iff.2 hp
    have h5 : 0 < bi.count p := List.count_pos_iff.2 hpi
    have h6 := hone p
    simp only [List.count_append] at h4
    omega
  have hbn : bi.Nodup := List.nodup_iff_count.2 fun x => by have := hone x; omega
  have hr := e6 xt cx hyr (fun p hp => hki p (by simp [hp])) hbn
  have r2 := g4 H' _ u' _ hr (fun p hp => e4.k p.1 p.2 fun hm => by
    have h6 := hone p
    have h5 : 0 < bi.count p := List.count_pos_iff.2 hm
    rcases hp with hp | hp
    · have : 0 < b1.count p := List.count_pos_iff.2 hp
      omega
    · have : 0 < b2.count p := List.count_pos_iff.2 hp
      omega)
  have hkk : ((L.map Prod.snd).set i (trG (n + m) es (cs ++ xt)))[k]? = some (.sl m es f xt) := by rw [List.getElem?_set_ne hik, getE hk]
  obtain ⟨v', f1, ff, f2, n1, n2, n3, n4, n5⟩ := RXs.pick _ r2 k _ hkk
  rw [List.getElem?_set_ne hik, getE hk] at n1
  cases n1
  have m4 := RX.keep _ (fun p hp => e4.k p.1 p.2 (hki p hp)) m3
  rw [RX.uniq _ n3 m4] at n2
  have hc2 : ∀ x, f1.count x + f2.count x + (cx.count x + [(by_, vy)].count x) = b1.count x + (ci.count x + cx.count x + [(b', H.c)].count x + b2.count x) := by
    intro x
    have := congrArg (List.count x) n2
    simp only [List.count_append] at this
    omega
  have hlt : ∀ p, 0 < b1.count p + (bi.count p + b2.count p) → p.2 < H.c := by
    intro p hp
    have : p ∈ b1 ++ (bi ++ b2) := List.count_pos_iff.1 (by simpa only [List.count_append] using hp)
    obtain ⟨cs', hcs'⟩ := RXs.live _ h1 p this
    exact lt_of_at h.fm.wf hcs'
  refine ⟨u', H', e1, h.w0, h.fm.step h.w0 e4 (fun p hp => h3 p (by simp [hp])), f1 ++ f2, ?_, ?_, ?_⟩
  · rw [← erase_map, ← erase_map, List.map_set, List.map_set]
    exact n5
  · refine List.nodup_iff_count.2 fun x => ?_
    have c1 := hc2 x
    have c2 := hone x
    have c3 := e2 x
    have c4 := hlt x
    simp only [List.count_append]
    by_cases hx : x = (b', H.c)
    · subst hx
      have : ¬ 0 < b1.count (b', H.c) + (bi.count (b', H.c) + b2.count (b', H.c)) := fun h => by have := c4 h; simp only at this; omega
      have e7 : [(b', H.c)].count (b', H.c) = 1 := by simp
      omega
    · have e7 : [(b', H.c)].count x = 0 := by simp [List.count_eq_zero, hx]
      omega
  · intro p hp
    have c1 := hc2 p
    have c3 := e2 p
    have h0 : 0 < (f1 ++ f2).count p := List.count_pos_iff.2 hp
    simp only [List.count_append] at h0
    by_cases hx : p = (b', H.c)
    · left; rw [hx]; exact h.fm.c
    · have e7 : [(b', H.c)].count p = 0 := by simp [List.count_eq_zero, hx]
      refine h3 p (List.count_pos_iff.1 ?_)
      simp only [List.count_append]
      omega
end
/- Walking rules over what a function has made: the memory is not in sight. -/
inductive Zt where
  | fin (Q : Ex → Sl → Hp → Prop)
  | seq (b : Cc) (k : Zt)
  | blk (id : Nat) (k : Zt)
  | loop (I : Nat → Sl → Lo → Prop) (m : Nat) (k : Zt)
def Zt.den (B : Bs) : Zt → Ct
  | .fin Q => .fin Q
  | .seq b k => .seq b (k.den B)
  | .blk id k => .blk id (k.den B)
  | .loop I m k => .loop (fun m s H => ∃ L, SL B L H ∧ I m s L) m (k.den B)
structure Z (E : Env) (B : Bs) (c : Cc) (s : Sl) (L : Lo) (k : Zt) : Prop where out : ∀ H, SL B L H → Y E T c s H (k.den B)
structure ZK (E : Env) (B : Bs) (k : Zt) (x : Ex) (s : Sl) (L : Lo) : Prop where out : ∀ H, SL B L H → K E T (k.den B) x s H
/-- Operations to come; with what was gone through, where a region draws its order. -/
inductive Md where
  | no
  | yes (full : List Co) (rs : List (Nat × Nat)) (tr : List (Sl × Lo))
def Md.add (m : Md) (s : Sl) (L : Lo) : Md := match m with
  | .no => .no
  | .yes f rs tr => .yes f rs (tr ++ [(s, L)])
def Fits (B : Bs) : List (Sl × Lo) → List (Sl × Hp) → Prop
  | [], [] => True
  | p :: tr, q :: th => q.1 = p.1 ∧ SL B p.2 q.2 ∧ Fits B tr th
  | _, _ => False
structure ZL (E : Env) (B : Bs) (m : Md) (sh : Bool) (l : List Co) (s : Sl) (L : Lo) (k : Zt) : Prop where
  out : ∀ H, SL B L H → match m with
    | .no => YL E T sh l s H (k.den B)
    | .yes f rs tr => ∀ th, Fits B tr th → YT E T sh f rs l s H th (k.den B)
section
variable {E : Env} {B : Bs} {s : Sl} {L : Lo} {k : Zt} {m : Md}
theorem zStart {c : Cc} {H : Hp} {Q : Ex → Sl → Hp → Prop} (hS : SL B L H) (h : Z E B c s L (.fin Q)) : Y E T c s H (.fin Q) := h.out H hS
theorem zSeq {a b} (h : Z E B a s L (.seq b k)) : Z E B (.seq a b) s L k := ⟨fun H hS => goSeq (h.out H hS)⟩
theorem zReg {sh l} (h : ZL E B .no sh l s L k) : Z E B (.reg sh l) s L k := ⟨fun H hS => goReg (h.out H hS)⟩
theorem zDrw {sh l rs} (h : ZL E B (.yes l rs []) sh l s L k) : Z E B (.drw sh l rs) s L k := ⟨fun H hS => goDrw (h.out H hS [] trivial)⟩
theorem zSkip (h : ZK E B k .norm s L) : Z E B .skip s L k := ⟨fun H hS => goSkip (h.out H hS)⟩
theorem zBlock {id b} (h : Z E B b s L (.blk id k)) : Z E B (.block id b) s L k := ⟨fun H hS => goBlock (h.out H hS)⟩
theorem zExit {i} (h : ZK E B k (.exit i) s L) : Z E B (.exit i) s L k := ⟨fun H hS => goExit (h.out H hS)⟩
theorem zRet (h : ZK E B k .ret s L) : Z E B .ret s L k := ⟨fun H hS => goRet (h.out H hS)⟩
theorem zSeqN {b} (h : Z E B b s L k) : ZK E B (.seq b k) .norm s L := ⟨fun H hS => goSeqN (h.out H hS)⟩
theorem zSeqR {b} (h : ZK E B k .ret s L) : ZK E B (.seq b k) .ret s L := ⟨fun H hS => goSeqR (h.out H hS)⟩
theorem zSeqE {b i} (h : ZK E B k (.exit i) s L) : ZK E B (.seq b k) (.exit i) s L := ⟨fun H hS => goSeqE (h.out H hS)⟩
theorem zBlkN {id} (h : ZK E B k .norm s L) : ZK E B (.blk id k) .norm s L := ⟨fun H hS => goBlkN (h.out H hS)⟩
theorem zBlkR {id} (h : ZK E B k .ret s L) : ZK E B (.blk id k) .ret s L := ⟨fun H hS => goBlkR (h.out H hS)⟩
theorem zBlkE {id} (h : ZK E B k .norm s L) : ZK E B (.blk id k) (.exit id) s L := ⟨fun H hS => goBlkE (h.out H hS)⟩
theorem zBlkX {id j : Nat} (hj : (j == id) = false) (h : ZK E B k (.exit j) s L) : ZK E B (.blk id k) (.exit j) s L := ⟨fun H hS => goBlkX hj (h.out H hS)⟩
theorem zLoopN {I : Nat → Sl → Lo → Prop} {m : Nat} (m' : Nat) (hm : m' < m) (h : I m' s L) : ZK E B (.loop I m k) .norm s L := ⟨fun H hS => goLoopN (k := k.den B) m' hm ⟨L, hS, h⟩⟩
theorem zLoopR {I m} (h : ZK E B k .ret s L) : ZK E B (.loop I m k) .ret s L := ⟨fun H hS => goLoopR (h.out H hS)⟩
theorem zLoopE {I m i} (h : ZK E B k (.exit i) s L) : ZK E B (.loop I m k) (.exit i) s L := ⟨fun H hS => goLoopE (h.out H hS)⟩
theorem zLoop {lv b} (I : Nat → Sl → Lo → Prop) (m : Nat) (h0 : I m s L) (h : ∀ m s1 L1, I m s1 L1 → Z E B b (cutSl lv s1) L1 (.loop I m k)) : Z E B (.loop lv false b) s L k :=
  ⟨fun H hS => goLoop (fun m s H => ∃ L, SL B L H ∧ I m s L) m ⟨L, hS, h0⟩ fun m s1 H1 ⟨L1, hS1, hI⟩ => (h m s1 L1 hI).out H1 hS1⟩
/-- What is known is told otherwise. -/
theorem zG {L' : Lo} {c} (hg : ∀ H, SL B L H → SL B L' H) (h : Z E B c s L' k) : Z E B c s L k := ⟨fun H hS => h.out H (hg H hS)⟩
theorem zGL {L' : Lo} {sh l} (hg : ∀ H, SL B L H → SL B L' H) (h : ZL E B m sh l s L' k) : ZL E B m sh l s L k := ⟨fun H hS => h.out H (hg H hS)⟩
theorem zGK {L' : Lo} {x} (hg : ∀ H, SL B L H → SL B L' H) (h : ZK E B k x s L') : ZK E B k x s L := ⟨fun H hS => h.out H (hg H hS)⟩
theorem zML {sh l} (h : ∀ H, SL B L H → ZL E B m sh l s L k) : ZL E B m sh l s L k := ⟨fun H hS => (h H hS).out H hS⟩
theorem zMK {x} (h : ∀ H, SL B L H → ZK E B k x s L) : ZK E B k x s L := ⟨fun H hS => (h H hS).out H hS⟩
theorem zIfB {c a b t} (he : ev s c = .bool t) (h1 : t = true → Z E B a s L k) (h2 : t = false → Z E B b s L k) : Z E B (.cond c a b) s L k := ⟨fun H hS => goIfB he (fun e => (h1 e).out H hS) (fun e => (h2 e).out H hS)⟩
theorem zIfQ {c a b t q} (he : ev s c = q) (eq : q = .bool t) (h1 : t = true → Z E B a s L k) (h2 : t = false → Z E B b s L k) : Z E B (.cond c a b) s L k := zIfB (he.trans eq) h1 h2
theorem zIf {c a b p q} {_ : Decidable p} (he : ev s c = q) (eq : q = .bool (decide p)) (h1 : p → Z E B a s L k) (h2 : ¬p → Z E B b s L k) : Z E B (.cond c a b) s L k :=
  zIfB (he.trans eq) (fun h => h1 (of_decide_eq_true h)) (fun h => h2 (of_decide_eq_false h))
theorem zIfT {c a b} (he : ev s c = .bool true) (h1 : Z E B a s L k) : Z E B (.cond c a b) s L k := zIfB he (fun _ => h1) (fun h => by cases h)
theorem zIfF {c a b} (he : ev s c = .bool false) (h1 : Z E B b s L k) : Z E B (.cond c a b) s L k := zIfB he (fun h => by cases h) (fun _ => h1)
theorem zNil {sh} (h : ZK E B k .norm s L) : ZL E B .no sh [] s L k := ⟨fun H hS => goNil (h.out H hS)⟩
/-! ### operations -/
theorem zCore {sh d o l} (h : ∀ H, SL B L H → ∃ v H' L', xdo E T sh o s H = some (v, H') ∧ SL B L' H' ∧ ZL E B (m.add s L) sh l ((d, v) :: s) L' k) : ZL E B m sh (⟨some d, o, none⟩ :: l) s L k := by
  refine ⟨fun H hS => ?_⟩
  obtain ⟨v, H', L', e, hS', hz⟩ := h H hS
  cases m with
  | no => exact goOp (H' := H') e rfl (hz.out H' hS')
  | yes f rs tr =>
    intro th hf
    refine goTOp (H' := H') e rfl (hz.out H' hS' _ ?_)
    have key : ∀ (tr : List (Sl × Lo)) (th : List (Sl × Hp)), Fits B tr th → Fits B (tr ++ [(s, L)]) (th ++ [(s, H)]) := by
      intro tr
      induction tr with
      | nil => intro th h; cases th with | nil => exact ⟨rfl, hS, trivial⟩ | cons _ _ => exact h.elim
      | cons p tr ih => intro th h; cases th with | nil => exact h.elim | cons q th => exact ⟨h.1, h.2.1, ih th h.2.2⟩
    exact key tr th hf
theorem zCore0 {sh o l} (h : ∀ H, SL B L H → ∃ v H' L', xdo E T sh o s H = some (v, H') ∧ SL B L' H' ∧ ZL E B (m.add s L) sh l s L' k) : ZL E B m sh (⟨none, o, none⟩ :: l) s L k := by
  refine ⟨fun H hS => ?_⟩
  obtain ⟨v, H', L', e, hS', hz⟩ := h H hS
  cases m with
  | no => exact goOp0 (H' := H') e rfl (hz.out H' hS')
  | yes f rs tr =>
    intro th hf
    refine goTOp0 (H' := H') e rfl (hz.out H' hS' _ ?_)
    have key : ∀ (tr : List (Sl × Lo)) (th : List (Sl × Hp)), Fits B tr th → Fits B (tr ++ [(s, L)]) (th ++ [(s, H)]) := by
      intro tr
      induction tr with
      | nil => intro th h; cases th with | nil => exact ⟨rfl, hS, trivial⟩ | cons _ _ => exact h.elim
      | cons p tr ih => intro th h; cases th with | nil => exact h.elim | cons q th => exact ⟨h.1, h.2.1, ih th h.2.2⟩
    exact key tr th hf
/-- Is the guarded operation done? It is. -/
theorem zYes {sh d o l j want} (hg : get s j = .bool want) (h : ZL E B m sh (⟨some d, o, none⟩ :: l) s L k) : ZL E B m sh (⟨some d, o, some (j, want)⟩ :: l) s L k := by
  refine ⟨fun H hS => ?_⟩
  have h1 := h.out H hS
  cases m with
  | no =>
    refine ⟨?_⟩
    have := h1.out
    rw [XL_cons, XG_none] at this
    rw [XL_cons, XG_some j want _ _ hg]
    exact ⟨fun _ => this, fun hh => absurd rfl hh⟩
  | yes f rs tr =>
    intro th hf
    refine ⟨?_⟩
    have := (h1 th hf).out
    simp only [XT, XG_none] at this
    simp only [XT, XG_some j want _ _ hg]
    exact ⟨fun _ => this, fun hh => absurd rfl hh⟩
theorem zSkipOp {sh d o l g} (hg : ∀ yes no : Prop, no → XG g s yes no) (h : ZL E B (m.add s L) sh l ((d, .tup []) :: s) L k) : ZL E B m sh (⟨some d, o, g⟩ :: l) s L k := by
  refine ⟨fun H hS => ?_⟩
  have h1 := h.out H hS
  cases m with
  | no => exact ⟨by rw [XL_cons]; exact hg _ _ h1.out⟩
  | yes f rs tr =>
    intro th hf
    refine ⟨?_⟩
    have key : ∀ (tr : List (Sl × Lo)) (th : List (Sl × Hp)), Fits B tr th → Fits B (tr ++ [(s, L)]) (th ++ [(s, H)]) := by
      intro tr
      induction tr with
      | nil => intro th h; cases th with | nil => exact ⟨rfl, hS, trivial⟩ | cons _ _ => exact h.elim
      | cons p tr ih => intro th h; cases th with | nil => exact h.elim | cons q th => exact ⟨h.1, h.2.1, ih th h.2.2⟩
    have := (h1 _ (key tr th hf)).out
    simp only [XT]
    exact hg _ _ this
theorem zNo {sh d o l j want} (hg : get s j = .bool (!want)) (h : ZL E B (m.add s L) sh l ((d, .tup []) :: s) L k) : ZL E B m sh (⟨some d, o, some (j, want)⟩ :: l) s L k :=
  zSkipOp (fun yes no hn => by rw [XG_some j want _ _ hg]; exact ⟨fun hh => (by cases want <;> cases hh), fun _ => hn⟩) h
theorem zNoU {sh d o l j want cs} (hg : get s j = .tup cs) (h : ZL E B (m.add s L) sh l ((d, .tup []) :: s) L k) : ZL E B m sh (⟨some d, o, some (j, want)⟩ :: l) s L k :=
  zSkipOp (fun yes no hn => by simp only [XG, hg]; exact hn) h
theorem zSplitQ {sh d o l j want t q} (hg : get s j = q) (eq : q = .bool t) (h1 : t = true → ZL E B m sh (⟨d, o, some (j, want)⟩ :: l) s L k) (h2 : t = false → ZL E B m sh (⟨d, o, some (j, want)⟩ :: l) s L k) : ZL E B m sh (⟨d, o, some (j, want)⟩ :: l) s L k := by
  cases t
  · exact h2 rfl
  · exact h1 rfl
theorem zSplit {sh d o l j want p q} {_ : Decidable p} (hg : get s j = q) (eq : q = .bool (decide p)) (h1 : p → ZL E B m sh (⟨d, o, some (j, want)⟩ :: l) s L k) (h2 : ¬p → ZL E B m sh (⟨d, o, some (j, want)⟩ :: l) s L k) : ZL E B m sh (⟨d, o, some (j, want)⟩ :: l) s L k := by
  by_cases hp : p
  · exact h1 hp
  · exact h2 hp
/-- An operation that leaves the memory alone. -/
theorem zOp {sh d o l v} {q : Hp → Option (AV × Hp)} (e : ∀ H, SL B L H → Fm B H → xdo E T sh o s H = q H) (eq : ∀ H, q H = some (v, H)) (h : ZL E B (m.add s L) sh l ((d, v) :: s) L k) : ZL E B m sh (⟨some d, o, none⟩ :: l) s L k :=
  zCore fun H hS => ⟨v, H, L, (e H hS hS.fm).trans (eq H), hS, h⟩
theorem zLoad {sh d t a l v} (ad : AV) {b ver j : Nat} (ha : ev s a = ad) (hq : ad = .ptr b ver j) (i : Nat) {u : AV} {tr : Tr} {cs : List Tr} (hi : L[i]? = some (u, tr)) (hu : blkOf u = some (b, ver)) (hc : tr.cs? = some cs) (hl : ldT T t cs j = some v) (h : ZL E B (m.add s L) sh l ((d, v) :: s) L k) : ZL E B m sh (⟨some d, .load t a, none⟩ :: l) s L k :=
  zCore fun H hS => ⟨v, H, L, by rw [xdo_load, ha, hq, hS.load i hi hc hu hl]; rfl, hS, h⟩
theorem zStore {sh t a x l} (ad : AV) {b ver j : Nat} (ha : ev s a = ad) (hq : ad = .ptr b ver j) (i : Nat) {u v : AV} {tr : Tr} {cs cs' : List Tr} {L' : Lo} (hi : L[i]? = some (u, tr)) (hu : blkOf u = some (b, ver)) (hc : tr.cs? = some cs) (hx : ev s x = v) (hl : stT T t cs j v = some cs') (hL : L.set i (u, tr.wc cs') = L') (h : ZL E B (m.add s L) sh l s L' k) : ZL E B m sh (⟨none, .store t a x, none⟩ :: l) s L k :=
  zCore0 fun H hS => by
    obtain ⟨H', e, hS'⟩ := hS.store (x := v) i hi hc hu hl
    exact ⟨.bad, H', L', by rw [xdo_store, ha, hq, hx, e]; rfl, hL ▸ hS', h⟩
/-- A list of numbers that may be read: it came in, or it was made. -/
structure Num (B : Bs) (L : Lo) (u : AV) (l : List Int) : Prop where out : ∀ H, SL B L H → ints H u = some l
/-- What came in is read so. -/
structure Fz (B : Bs) (u : AV) (l : List Int) : Prop where out : ∀ H, Fm B H → ints H u = some l
theorem Num.fz {u l} (h : Fz B u l) : Num B L u l := ⟨fun H hS => h.out H hS.fm⟩
theorem Num.own (i : Nat) {u l t} (hi : L[i]? = some (u, t)) (hn : numsT t = some l) : Num B L u l := ⟨fun H hS => hS.ints i hi hn⟩
theorem zLoadI {sh d t a l} (ad : AV) {u : AV} {j : Int} {n : List Int} (ha : ev s a = ad) (hq : ad = pAt u j) (ht : t = 3 ∨ t = 2) (hn : Num B L u n) (h0 : 0 ≤ j) (h1 : j < n.length) (h : ZL E B (m.add s L) sh l ((d, .int .i64 (nth n j)) :: s) L k) : ZL E B m sh (⟨some d, .load t a, none⟩ :: l) s L k :=
  zCore fun H hS => ⟨_, H, L, by
    rw [xdo_load, ha, hq]
    rcases ht with rfl | rfl
    · rw [aload_nth T3 rfl (hn.out H hS) j h0 h1]; rfl
    · rw [aload_nth T2 rfl (hn.out H hS) j h0 h1]; rfl, hS, h⟩
theorem zStoreI {sh t a x l} (ad : AV) {u : AV} {j : Nat} {n : List Int} {f : Bool} {y : Int} {L' : Lo} (ha : ev s a = ad) (hq : ad = pAt u j) (ht : t = 3 ∨ t = 2) (i : Nat) (hi : L[i]? = some (u, trB f n)) (h1 : j < n.length) (hx : ev s x = .int .i64 y) (hL : L.set i (u, trB f (n.set j y)) = L') (h : ZL E B (m.add s L) sh l s L' k) : ZL E B m sh (⟨none, .store t a x, none⟩ :: l) s L k :=
  zCore0 fun H hS => by
    obtain ⟨H', e, hS'⟩ := hS.storeI i hi ht j h1 y
    exact ⟨.bad, H', L', by rw [xdo_store, ha, hq, hx, e]; rfl, hL ▸ hS', h⟩
theorem zAlloc {sh d e l} {ie : TI} (hT : T e = some ie) (h : ∀ b ver, ZL E B (m.add s L) sh l ((d, .ptr b ver 0) :: s) ((.ptr b ver 0, .bx (ie.zero.map .at)) :: L) k) : ZL E B m sh (⟨some d, .alloc e, none⟩ :: l) s L k :=
  zCore fun H hS => ⟨_, _, _, by simp only [xdo, aop, hT, Option.map_some], hS.new (.bx (ie.zero.map .at)) ie.zero rfl, h _ _⟩
theorem zBox {sh d e x l} {v : AV} (hx : ev s x = v) (h1 : v.cells.all AV.one = true) (h : ∀ b ver, ZL E B (m.add s L) sh l ((d, .ptr b ver 0) :: s) ((.ptr b ver 0, .bx (v.cells.map .at)) :: L) k) : ZL E B m sh (⟨some d, .box e x, none⟩ :: l) s L k :=
  zCore fun H hS => ⟨_, _, _, by simp only [xdo, aop, hx, h1, if_true], hS.new (.bx (v.cells.map .at)) v.cells rfl, h _ _⟩
theorem zBS {sh d t n ps l} {e : Nat} {ie : TI} {cells : List AV} (hD : T.d t = .slice e) (hT : T e = some ie) (hs : n * ie.size ≤ 16777216) (hc : afill (fun j => some (j * ie.size, ie.size)) (rep n ie.zero) (ps.toList.map fun p => (p.1, ev s p.2)) = some cells)
    (h : ∀ b ver, ZL E B (m.add s L) sh l ((d, .sl b ver 0 n ie.size true) :: s) ((.sl b ver 0 n ie.size true, .sl n ie.size true (cells.map .at)) :: L) k) : ZL E B m sh (⟨some d, .buildSlice t n ps, none⟩ :: l) s L k :=
  zCore fun H hS => ⟨_, _, _, by simp only [xdo, aop, hD, hT, Option.bind_some, hs, if_true, hc, Option.map_some], hS.new (.sl n ie.size true (cells.map .at)) cells rfl, h _ _⟩
/-- A call that makes something. -/
theorem zCall' {sh d f xs ts l} {g : Nat} {caps args : List AV} {F : List AV → Hp → Option (AV × Hp)} {t : Tr} (hf : ev s f = .func g caps) (ha : xs.toList.map (ev s) ++ caps = args) (hE : E g = some (.eff F)) (hF : ∀ H, SL B L H → Fm B H → F args H = some (mk t H)) (h : ∀ v, ZL E B .no sh l ((d, v) :: s) ((v, t) :: L) k) : ZL E B .no sh (⟨some d, .call ⟨.value f, xs, ts⟩, none⟩ :: l) s L k :=
  zCore fun H hS => ⟨_, _, _, by rw [xdo_call, hf]; simp only [acall, hE, Option.bind_some, ha, FSem.run]; exact hF H hS hS.fm, hS.called t, h _⟩
/-- A call that leaves the memory alone. -/
theorem zPure' {sh d f xs ts l} {g : Nat} {caps args : List AV} {F : List AV → Hp → Option AV} {v : AV} (hf : ev s f = .func g caps) (ha : xs.toList.map (ev s) ++ caps = args) (hE : E g = some (.pure F)) (hF : ∀ H, SL B L H → Fm B H → F args H = some v) (h : ZL E B .no sh l ((d, v) :: s) L k) : ZL E B .no sh (⟨some d, .call ⟨.value f, xs, ts⟩, none⟩ :: l) s L k :=
  zCore fun H hS => ⟨v, H, L, by rw [xdo_call, hf]; simp only [acall, hE, Option.bind_some, ha, FSem.run, hF H hS hS.fm, Option.map_some], hS, h⟩
/-- The rechecks of a region that draws its order. -/
def AgainZ (E : Env) (B : Bs) (sh : Bool) (l : List Co) (tr : List (Sl × Lo)) : List (Nat × Nat) → Prop
  | [] => True
  | (q, k) :: rs => (match l[q]?, tr[q]?, tr[k]? with
    | some o, some (s, L), some (_, L') => XG o.g s (∃ v, (∀ H, SL B L H → (xdo E T sh o.o s H).map (·.1) = some v) ∧ ∀ H, SL B L' H → (xdo E T sh o.o s H).map (·.1) = some v) True
    | _, _, _ => False) ∧ AgainZ E B sh l tr rs
theorem Fits.at : ∀ {tr : List (Sl × Lo)} {th : List (Sl × Hp)}, Fits B tr th → ∀ (i : Nat) {p : Sl × Lo}, tr[i]? = some p → ∃ H, th[i]? = some (p.1, H) ∧ SL B p.2 H := by
  intro tr
  induction tr with
  | nil => intro th h i p hi; simp at hi
  | cons q tr ih =>
    intro th h i p hi
    cases th with
    | nil => exact h.elim
    | cons x th =>
      cases i with
      | zero => simp at hi; subst hi; exact ⟨x.2, by simp [← h.1], h.2.1⟩
      | succ i => simpa using ih h.2.2 i (by simpa using hi)
theorem AgainZ.sound {sh : Bool} {l : List Co} {tr : List (Sl × Lo)} {th : List (Sl × Hp)} (hf : Fits B tr th) : ∀ (rs : List (Nat × Nat)), AgainZ E B sh l tr rs → again E T sh l th rs := by
  intro rs
  induction rs with
  | nil => intro _; trivial
  | cons p rs ih =>
    intro h
    obtain ⟨q, k⟩ := p
    simp only [AgainZ] at h
    refine ⟨?_, ih h.2⟩
    have h1 := h.1
    split at h1
    · rename_i o s L s' L' e1 e2 e3
      obtain ⟨H1, g1, g2⟩ := hf.at q e2
      obtain ⟨H2, g3, g4⟩ := hf.at k e3
      simp only [e1, g1, g3]
      have key : ∀ (g : Option (Nat × Bool)) (s : Sl) (P Q : Prop), (P → Q) → XG g s P True → XG g s Q True := by
        intro g s P Q hpq hx
        unfold XG at hx ⊢
        split at hx
        · exact hpq hx
        · split at hx
          · exact ⟨fun e => hpq (hx.1 e), hx.2⟩
          · exact hx
          · exact hx
      refine key _ _ _ _ ?_ h1
      rintro ⟨v, v1, v2⟩
      rw [v1 H1 g2, v2 H2 g4]
    · exact h1.elim
theorem zNilT {sh full rs tr} (ha : AgainZ E B sh full (tr ++ [(s, L)]) rs) (h : ZK E B k .norm s L) : ZL E B (.yes full rs tr) sh [] s L k := by
  refine ⟨fun H hS => ?_⟩
  intro th hf
  have key : ∀ (tr : List (Sl × Lo)) (th : List (Sl × Hp)), Fits B tr th → Fits B (tr ++ [(s, L)]) (th ++ [(s, H)]) := by
    intro tr
    induction tr with
    | nil => intro th h; cases th with | nil => exact ⟨rfl, hS, trivial⟩ | cons _ _ => exact h.elim
    | cons p tr ih => intro th h; cases th with | nil => exact h.elim | cons q th => exact ⟨h.1, h.2.1, ih th h.2.2⟩
  exact goTNil (AgainZ.sound (key tr th hf) rs ha) (h.out H hS)
/-- The end of a walk: what is handed back is a tree. -/
theorem zEnd {H0 : Hp} {x : Ex} {rs : List ResultVar} {vs : List AV} {t : Tr} {r : AV} {Hr : Hp} (hx : x = .norm ∨ x = .ret) (e : ∀ H, SL ⟨H0, []⟩ L H → xres T s H rs = some vs) (hg : ∀ H, SL ⟨H0, []⟩ L H → ∃ L', SL ⟨H0, []⟩ ((xret vs, t) :: L') H) (hok : okT H0.c t = true) (hr : mk t H0 = (r, Hr)) :
    ZK E ⟨H0, []⟩ (.fin fun x s' H2 => (x = .norm ∨ x = .ret) ∧ ∃ vs js, xres T s' H2 rs = some vs ∧ Can H0 H2 Hr (xret vs) r js) x s L := by
  refine ⟨fun H hS => ?_⟩
  obtain ⟨L', hS'⟩ := hg H hS
  obtain ⟨bs, h1, h2, h3⟩ := hS'.rx
  simp only [List.map_cons, RXs] at h1
  obtain ⟨v, vs', b1, b2, e1, r1, r2, rfl⟩ := h1
  cases e1
  have hrep := RX.rep (c := H0.c) t hok (fun p hp => (h3 p (by simp [hp])).elim id (fun h => by simp at h)) r1
  have hx' := hS.ext rfl
  refine goEndR (d := H.c) hS.w0 hx'.pre hrep ⟨(List.nodup_append.1 h2).1, fun p hp => ⟨(h3 p (by simp [hp])).elim id (fun h => by simp at h), ?_⟩⟩ hx (e H hS) rfl hr
  obtain ⟨cs, hcs⟩ := RX.live t r1 p hp
  exact lt_of_at hx'.wf hcs
/-- The end of a walk that hands back nothing new. -/
theorem zEndP {H0 : Hp} {x : Ex} {rs : List ResultVar} {vs : List AV} {r : AV} (hx : x = .norm ∨ x = .ret) (e : ∀ H, SL ⟨H0, []⟩ L H → xres T s H rs = some vs) (hr : (xret vs).rel H0.bs.length H0.c [] = r) :
    ZK E ⟨H0, []⟩ (.fin fun x s' H2 => (x = .norm ∨ x = .ret) ∧ ∃ vs js, xres T s' H2 rs = some vs ∧ Can H0 H2 H0 (xret vs) r js) x s L :=
  ⟨fun H hS => goEnd hS.w0 (hS.ext rfl).pre hx (e H hS) rfl hr⟩
end
end Go.Proofs.Ytokadkakmhfdeaa.Pq
