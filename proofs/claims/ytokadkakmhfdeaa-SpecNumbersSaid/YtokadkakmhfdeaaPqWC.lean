/- Walks: TileShares. -/
import Derived.Test.YtokadkakmhfdeaaPqX5
import Derived.Test.YtokadkakmhfdeaaPqW8
import Derived.Test.YtokadkakmhfdeaaPqC4
set_option linter.unusedVariables false
set_option linter.unusedSimpArgs false
namespace Go.Proofs.Ytokadkakmhfdeaa.Pq
open Go.RowKit

/-! ### what is new here: a struct, a box, lists of lists -/
def bld25 (x : AV) : Option AV := (afill (fun j => ([(0, 22), (1, 3)][j]?).bind fun f => (T f.2).map fun i => (f.1, i.size)) [.nilS, .int .i64 0] [(0, x)]).map .agg
def abox (v : AV) (H : Hp) : Option (AV × Hp) := if v.cells.all AV.one = true then some (.ptr H.bs.length H.c 0, H.new v.cells) else none
theorem aidx26 (v i : AV) : aidx T 26 v i = aidxS 1 v i := by simp [aidx, D26, T22]
section
variable {E : Env} {sh : Bool} {s : Sl} {H : Hp}
@[simp] theorem xdo_build25 (x : Operand) : xdo E T sh (.build 25 #[(0, x)]) s H = (bld25 (ev s x)).map fun v => (v, H) := by
  simp only [xdo, aop, T25, bld25, Option.map_map]
  rfl
@[simp] theorem xdo_box (t : Nat) (x : Operand) : xdo E T sh (.box t x) s H = abox (ev s x) H := rfl
theorem xdo_bs22_1 (a : Int) : xdo E T sh (.buildSlice 22 1 #[(0, .const (.int .i64 a))]) s H = some (.sl H.bs.length H.c 0 1 1 true, H.new ([a].map (.int .i64))) := by
  simp [xdo, aop, D22, T3, rep, afill, setAll, AV.cells, AV.one]
theorem xdo_bs22_2 (a b : Int) : xdo E T sh (.buildSlice 22 2 #[(0, .const (.int .i64 a)), (1, .const (.int .i64 b))]) s H = some (.sl H.bs.length H.c 0 2 1 true, H.new ([a, b].map (.int .i64))) := by
  simp [xdo, aop, D22, T3, rep, afill, setAll, AV.cells, AV.one]
theorem xdo_bs22_3 (a b c : Int) : xdo E T sh (.buildSlice 22 3 #[(0, .const (.int .i64 a)), (1, .const (.int .i64 b)), (2, .const (.int .i64 c))]) s H = some (.sl H.bs.length H.c 0 3 1 true, H.new ([a, b, c].map (.int .i64))) := by
  simp [xdo, aop, D22, T3, rep, afill, setAll, AV.cells, AV.one]
theorem xdo_bs22_0 : xdo E T sh (.buildSlice 22 0 #[]) s H = some (.sl H.bs.length H.c 0 0 1 true, H.new []) := by
  simp [xdo, aop, D22, T3, rep, afill]
theorem xdo_bs26_6 (x0 x1 x2 x3 x4 x5 : Operand) {v0 v1 v2 v3 v4 v5 : AV} (h0 : ev s x0 = v0) (h1 : ev s x1 = v1) (h2 : ev s x2 = v2) (h3 : ev s x3 = v3) (h4 : ev s x4 = v4) (h5 : ev s x5 = v5)
    (g : [v0, v1, v2, v3, v4, v5].all (fun v => match v with | .sl .. => true | _ => false) = true) :
    xdo E T sh (.buildSlice 26 6 #[(0, x0), (1, x1), (2, x2), (3, x3), (4, x4), (5, x5)]) s H = some (.sl H.bs.length H.c 0 6 1 true, H.new [v0, v1, v2, v3, v4, v5]) := by
  simp only [List.all_cons, List.all_nil, Bool.and_true, Bool.and_eq_true] at g
  obtain ⟨g0, g1, g2, g3, g4, g5⟩ := g
  cases v0 <;> first | cases g0 | skip
  cases v1 <;> first | cases g1 | skip
  cases v2 <;> first | cases g2 | skip
  cases v3 <;> first | cases g3 | skip
  cases v4 <;> first | cases g4 | skip
  cases v5 <;> first | cases g5 | skip
  simp [xdo, aop, D26, T22, rep, afill, setAll, AV.cells, AV.one, h0, h1, h2, h3, h4, h5]
end
/-- Lists that stand in the text: the memory after them, and their values. -/
def litH (H : Hp) : List (List Int) → List AV × Hp
  | [] => ([], H)
  | l :: r => (.sl H.bs.length H.c 0 l.length 1 true :: (litH (H.new (l.map (.int .i64))) r).1, (litH (H.new (l.map (.int .i64))) r).2)
theorem litH_ext : ∀ (L : List (List Int)) {H : Hp}, Wf H → Ext H (litH H L).2 := by
  intro L
  induction L with
  | nil => intro H hw; exact Ext.refl hw
  | cons l L ih => intro H hw; exact ((Ext.refl hw).new _).trans (ih (hw.new _))
theorem litH_at : ∀ (L : List (List Int)) {H : Hp}, Wf H → (∀ l ∈ L, l.length ≤ 1152921504606846976) → ∀ k : Nat, k < L.length → ∃ u m, (litH H L).1[k]? = some u ∧ L[k]? = some m ∧ ints (litH H L).2 u = some m ∧ ∀ b, b < H.bs.length → off u b = true := by
  intro L
  induction L with
  | nil => intro H _ _ k hk; simp at hk
  | cons l L ih =>
    intro H hw hl k hk
    cases k with
    | zero =>
      refine ⟨_, _, rfl, rfl, ?_, ?_⟩
      · refine ints_ext (litH_ext L (hw.new _)).pre ?_
        exact ints_of_ownF (H0 := H) ⟨_, _, rfl, Nat.le_refl _, new_at _ _⟩ (hl l (by simp))
      · intro b hb; simp [off]; omega
    | succ k =>
      obtain ⟨u, m, h1, h2, h3, h4⟩ := ih (hw.new (l.map (.int .i64))) (fun x hx => hl x (by simp [hx])) k (by simpa using hk)
      exact ⟨u, m, by simpa [litH] using h1, by simpa using h2, h3, fun b hb => h4 b (by rw [new_len]; omega)⟩
theorem goLits {E : Env} {s : Sl} {H : Hp} {k : Ct} {l : List Co}
    (h : ∀ (v0 v1 v2 v3 v4 v5 : AV) (HL : Hp), litH H six = ([v0, v1, v2, v3, v4, v5], HL) →
      YL E T false l ((25, .sl HL.bs.length HL.c 0 6 1 true) :: (24, v5) :: (23, v4) :: (22, v3) :: (21, v2) :: (20, v1) :: (19, v0) :: s) (HL.new [v0, v1, v2, v3, v4, v5]) k) :
    YL E T false (⟨some 19, (Op.buildSlice 22 1 #[(0, (Operand.const (Value.int IntKind.i64 2)))]), none⟩ ::
    ⟨some 20, (Op.buildSlice 22 2 #[(0, (Operand.const (Value.int IntKind.i64 2))), (1, (Operand.const (Value.int IntKind.i64 4)))]), none⟩ ::
    ⟨some 21, (Op.buildSlice 22 2 #[(0, (Operand.const (Value.int IntKind.i64 3))), (1, (Operand.const (Value.int IntKind.i64 2)))]), none⟩ ::
    ⟨some 22, (Op.buildSlice 22 3 #[(0, (Operand.const (Value.int IntKind.i64 2))), (1, (Operand.const (Value.int IntKind.i64 2))), (2, (Operand.const (Value.int IntKind.i64 2)))]), none⟩ ::
    ⟨some 23, (Op.buildSlice 22 0 #[]), none⟩ ::
    ⟨some 24, (Op.buildSlice 22 1 #[(0, (Operand.const (Value.int IntKind.i64 5)))]), none⟩ ::
    ⟨some 25, (Op.buildSlice 26 6 #[(0, (Operand.tmp 19)), (1, (Operand.tmp 20)), (2, (Operand.tmp 21)), (3, (Operand.tmp 22)), (4, (Operand.tmp 23)), (5, (Operand.tmp 24))]), none⟩ :: l) s H k := by
  refine goOp (xdo_bs22_1 2) rfl ?_
  refine goOp (xdo_bs22_2 2 4) rfl ?_
  refine goOp (xdo_bs22_2 3 2) rfl ?_
  refine goOp (xdo_bs22_3 2 2 2) rfl ?_
  refine goOp xdo_bs22_0 rfl ?_
  refine goOp (xdo_bs22_1 5) rfl ?_
  refine goOp (xdo_bs26_6 _ _ _ _ _ _ rfl rfl rfl rfl rfl rfl rfl) rfl ?_
  exact h _ _ _ _ _ _ _ rfl
theorem F18_at {H : Hp} {b ver : Nat} {v sz : AV} {l z : List Int} {a n : Nat} (ht : Tape H b ver v l a) (hz : ints H sz = some z) (hn : n < 1048576) (hzl : z.length < 1048576) (ho : off sz b = true) :
    F18 [.ptr b ver 0, sz, .int .i64 n] H = some (mkF (tapePut H b ver v (specT l z.length n a (List.replicate z.length false)).2) (specT l z.length n a (List.replicate z.length false)).1) := by
  have c : 0 ≤ (n : Int) ∧ (n : Int) < 1048576 ∧ z.length < 1048576 ∧ off sz b = true := ⟨by omega, by omega, hzl, ho⟩
  show (ints H sz).bind _ = _
  rw [hz, Option.bind_some]
  rw [if_pos c, tapeF_at ht, Int.toNat_natCast]
theorem Pre.le {H H1 : Hp} (h : Pre H H1) : H.bs.length ≤ H1.bs.length := by
  rcases Nat.lt_or_ge H1.bs.length H.bs.length with hl | hl
  · have := h _ _ (List.getElem?_eq_getElem hl)
    have := (List.getElem?_eq_some_iff.1 this).1
    omega
  · exact hl
theorem Ext.tapeN {H X : Hp} {b ver : Nat} {v : AV} {l : List Int} {a a' : Nat} (h : Ext H X) (hb : H.bs.length ≤ b) (ht : Tape X b ver v l a) : Ext H (tapePut X b ver v a') := by
  refine ⟨?_, ht.wf h.wf, h.c⟩
  intro i k hi
  have hlt := (List.getElem?_eq_some_iff.1 hi).1
  simp only [tapePut, Hp.put]
  rw [List.getElem?_set_ne (by omega)]
  exact h.pre i k hi
theorem Own.off {H0 H1 : Hp} {b ver : Nat} {v u : AV} {l L : List Int} {a : Nat} (h : Tape H1 b ver v l a) (hver : ver < H0.c) (ho : Own H0 H1 u L) : off u b = true := by
  rcases ho with ⟨_, rfl⟩ | ⟨b2, ver2, rfl, h2, h3, hk⟩
  · rfl
  · have hne : b2 ≠ b := by
      intro e
      subst e
      obtain ⟨g1, g2⟩ := Hp.at_some hk
      obtain ⟨g3, g4⟩ := Hp.at_some h.at'
      rw [g1] at g3
      have e := congrArg Blk.ver (Option.some.inj g3)
      simp only at e
      omega
    simpa [Pq.off] using hne
theorem ints_cell {H : Hp} {v : AV} {l : List Int} (h : ints H v = some l) : bld25 v = some (.agg [v, .int .i64 0]) ∧ v.one = true ∧ off v H.bs.length = true := by
  unfold ints at h
  split at h
  · exact ⟨by simp [bld25, afill, setAll, AV.cells, AV.one, T22], rfl, rfl⟩
  · exact ⟨by simp [bld25, afill, setAll, AV.cells, AV.one, T22], rfl, rfl⟩
  · split at h
    · split at h
      · rename_i hk
        have := (List.getElem?_eq_some_iff.1 (Hp.at_some hk).1).1
        refine ⟨by simp [bld25, afill, setAll, AV.cells, AV.one, T22], rfl, ?_⟩
        simp [Pq.off]; omega
      · cases h
    · cases h
  · cases h
theorem shapeT_le (l : List Int) : ∀ n a, a ≤ l.length → (shapeT l n a).2 ≤ l.length := by
  intro n
  induction n with
  | zero => intro a h; exact h
  | succ n ih => intro a h; exact ih _ (nextAt_le h)

open Classical in
noncomputable def F3 (args : List AV) (H : Hp) : Option AV := match args with
  | [v] => if ∃ l, ints H v = some l ∧ In64 l then some (.bool true) else none
  | _ => none
set_option maxHeartbeats 4000000 in
theorem snd3 : Sound Try.prog 3 (FSem.pure F3).run := by
  refine sound_of hT (EOK_cons snd16 (EOK_cons snd17 (EOK_cons snd18 (EOK_cons snd19 (EOK_cons snd20 (EOK_cons snd21 (EOK_cons snd22 (EOK_cons snd23 (EOK_cons snd24 (EOK_nil _)))))))))) mixed A3 Try.func3 hb3 (by kernel_rfl) (by kernel_rfl) (by kernel_rfl) (by kernel_rfl) sh3 1 (by kernel_rfl) rs3 hr3 ?_
  intro args H r H' hw h
  obtain ⟨rfl, hv⟩ := pureAt h
  clear h
  unfold F3 at hv
  split at hv
  · rename_i v
    split at hv
    rotate_left
    · cases hv
    rename_i hex
    obtain ⟨l, hl, hr⟩ := hex
    cases hv
    obtain ⟨hv1, hv2, hvo⟩ := ints_cell hl
    have ht0 : Tape (H'.new [v, .int .i64 0]) H'.bs.length H'.c v l 0 := ⟨new_at _ _, ints_ext (Pre.new (Pre.refl _) _) hl, hvo, Nat.zero_le _, hr⟩
    have hE0 : Ext H' (H'.new [v, .int .i64 0]) := (Ext.refl hw).new _
    have hbx : abox (.agg [v, .int .i64 0]) H' = some (.ptr H'.bs.length H'.c 0, H'.new [v, .int .i64 0]) := by
      unfold abox; rw [if_pos (by simp [AV.cells, hv2]; rfl)]; rfl
    refine ⟨rfl, go ?_⟩
    unfold c3
    simp only [argSl]
    refine goSeq (goReg (goOp rfl rfl (goNil (goSeqN ?_))))
    refine goSeq (goReg ?_)
    iterate 4 (apply goOp; (· (simp [hv1, hbx]; try exact rfl)); (· exact rfl))
    refine goNil (goSeqN (goSeq (goReg ?_)))
    have hlt : H'.bs.length < (H'.new [v, .int .i64 0]).bs.length := by rw [new_len]; omega
    have hbl : H'.bs.length ≤ H'.bs.length := Nat.le_refl _
    have hver1 : H'.c < (H'.new [v, .int .i64 0]).c := by rw [new_c]; omega
    generalize H'.new [v, .int .i64 0] = H1 at *
    generalize hb : H'.bs.length = b at hbl hlt ht0 hvo ⊢
    generalize H'.c = ver at ht0 hver1 ⊢
    clear hbx hv1 hv2 hvo
    refine goLits fun v0 v1 v2 v3 v4 v5 HL hL => ?_
    have hE1 : Ext H1 HL := by have := litH_ext six hE0.wf; rwa [hL] at this
    obtain ⟨hk0, hk1⟩ := next_in hr 0 6 (by omega)
    obtain ⟨k, hk⟩ : ∃ k : Nat, nextOf l 0 6 = k := ⟨(nextOf l 0 6).toNat, by omega⟩
    obtain ⟨sz, m, hsz, hm, hmi, hmo⟩ := litH_at six hE0.wf (by decide) k (by simp [six]; omega)
    rw [hL] at hsz hmi
    replace hmo := hmo b hlt
    have hmem : m ∈ six := List.mem_of_getElem? hm
    have hvs : HL.bs.length ≠ b := by have := Pre.le hE1.pre; omega
    have ht1 : Tape (HL.new [v0, v1, v2, v3, v4, v5]) b ver v l 0 := ht0.ext (hE1.new _).pre
    have hE2 : Ext H' (HL.new [v0, v1, v2, v3, v4, v5]) := hE0.trans (hE1.new _)
    have e16 := F16_at ht1 6
    have hix : aidx T 26 (.sl HL.bs.length HL.c 0 6 1 true) (.int .i64 k) = some (.ptr HL.bs.length HL.c k) := by
      rw [aidx26]; simp only [aidxS]; rw [if_pos ⟨trivial, by omega, by omega⟩]; simp
    have hld : aload T 22 (.ptr HL.bs.length HL.c k) (tapePut (HL.new [v0, v1, v2, v3, v4, v5]) b ver v (nextAt l 0 6)) = some sz := by
      have := at_put (H := HL.new [v0, v1, v2, v3, v4, v5]) (ver := HL.c) (k := ⟨ver, [v, .int .i64 (nextAt l 0 6)], true, true⟩) hvs
      simp only [aload, T22, tapePut, this, new_at]
      exact hsz
    rw [hk] at e16
    have hm2 : ints (tapePut (HL.new [v0, v1, v2, v3, v4, v5]) b ver v (nextAt l 0 6)) sz = some m := by
      unfold tapePut; rw [ints_put hmo]; exact ints_ext (Pre.new (Pre.refl _) _) hmi
    have ht2 : Tape (tapePut (HL.new [v0, v1, v2, v3, v4, v5]) b ver v (nextAt l 0 6)) b ver v l (nextAt l 0 6) := ht1.put (nextAt_le (Nat.zero_le _))
    have hE3 : Ext H' (tapePut (HL.new [v0, v1, v2, v3, v4, v5]) b ver v (nextAt l 0 6)) := hE2.tapeN (by omega) ht1
    have hver2 : ver < (tapePut (HL.new [v0, v1, v2, v3, v4, v5]) b ver v (nextAt l 0 6)).c := by
      have := hE1.c
      show ver < HL.c + 1
      omega
    replace hmi := Hide.mk hmi
    replace hm2 := Hide.mk hm2
    replace ht1 := Hide.mk ht1
    replace ht2 := Hide.mk ht2
    replace hE2 := Hide.mk hE2
    replace hE3 := Hide.mk hE3
    replace hmem := Hide.mk hmem
    replace hver2 := Hide.mk hver2
    replace hr := Hide.mk hr
    clear hE0 hE1 ht0 hL hm hsz
    repeat' (first | apply goSeq | apply goReg | apply goSeqN | apply goSeqR | apply goSkip | apply goRet | apply goNil | apply goBlock | apply goExit | apply goBlkN | apply goBlkR | apply goBlkE | apply goSeqE | apply goLoopR | apply goLoopE | (apply goOp; (· (simp [*]; try exact rfl)); (· exact rfl)) | (apply goOp0; (· (simp [*]; try exact rfl)); (· exact rfl)) | (apply goYes; (· (simp [*]; done)); (· (simp [*]; try exact rfl)); (· exact rfl)) | (apply goNo; (· (simp [*]; done))) | (apply goNoU; (· (simp; exact rfl))) | (apply goIfT; (· (simp [*]; done))) | (apply goIfF; (· (simp [*]; done))) | (apply goIf; (· (simp; exact rfl)); (· with_reducible exact rfl)) | (apply goSplit; (· (simp; exact rfl)); (· with_reducible exact rfl)) | (apply goIfQ; (· (simp; exact rfl)); (· exact rfl)) | (apply goSplitQ; (· (simp; exact rfl)); (· exact rfl)) | (apply goBlkX; (· rfl)) | intro _)
    have hmem := hmem.out
    have hr := hr.out
    generalize hH2 : tapePut (HL.new [v0, v1, v2, v3, v4, v5]) b ver v (nextAt l 0 6) = H2 at hm2 ht2 hE3 hver2 ⊢
    clear hH2 hld hix e16 hmi ht1 hE2
    -- the shape
    obtain ⟨hn0, hn3⟩ := next_in hr (nextAt l 0 6) 4 (by omega)
    have e17 : F17 [.ptr b ver 0] H2 = some (mkS (tapePut H2 b ver v (shapeT l (nextOf l (nextAt l 0 6) 4).toNat (nextAt l (nextAt l 0 6) 4)).2) (shapeT l (nextOf l (nextAt l 0 6) 4).toNat (nextAt l (nextAt l 0 6) 4)).1) := by
      simp only [F17]; exact tapeF_at ht2.out
    have hs := shapeT_mem hr (nextOf l (nextAt l 0 6) 4).toNat (nextAt l (nextAt l 0 6) 4)
    have h3 := shapeT_len l (nextOf l (nextAt l 0 6) 4).toNat (nextAt l (nextAt l 0 6) 4)
    have hA := shapeT_le l (nextOf l (nextAt l 0 6) 4).toNat (nextAt l (nextAt l 0 6) 4) (nextAt_le (nextAt_le (Nat.zero_le _)))
    replace h3 : (shapeT l (nextOf l (nextAt l 0 6) 4).toNat (nextAt l (nextAt l 0 6) 4)).1.length ≤ 3 := by omega
    generalize (shapeT l (nextOf l (nextAt l 0 6) 4).toNat (nextAt l (nextAt l 0 6) 4)).1 = S at *
    generalize (shapeT l (nextOf l (nextAt l 0 6) 4).toNat (nextAt l (nextAt l 0 6) 4)).2 = A2 at *
    have tw := ht2.out.wf (a' := A2) hE3.out.wf
    have ht3 := (ht2.out.put hA).ext (mkS_ext tw S).pre
    have hE4 := (hE3.out.tapeN (a' := A2) (by omega) ht2.out).trans (mkS_ext tw S)
    have ho3 := mkS_own (tapePut H2 b ver v A2) S
    have hof3 := Own.off ht3 (H0 := tapePut H2 b ver v A2) (by exact hver2.out) ho3
    have his3 := ints_of_own ho3 (by omega)
    have him3 : ints (mkS (tapePut H2 b ver v A2) S).2 sz = some m := by
      refine ints_ext (mkS_ext tw S).pre ?_
      unfold tapePut; rw [ints_put hmo]; exact hm2.out
    generalize hr3 : mkS (tapePut H2 b ver v A2) S = r3 at *
    obtain ⟨sv, H3⟩ := r3
    simp only at ht3 hE4 ho3 hof3 his3 him3
    -- the spec
    have hml : m.length ≤ 3 := (six_ok m hmem).2.2.2
    have e18 : F18 [.ptr b ver 0, sz, .int .i64 S.length] H3 = some (mkF (tapePut H3 b ver v (specT l m.length S.length A2 (List.replicate m.length false)).2) (specT l m.length S.length A2 (List.replicate m.length false)).1) := by
      exact F18_at ht3 him3 (by omega) (by omega) hmo
    have hlS := alenS_ints his3
    have hsp := specT_ok hr m.length S.length A2 (List.replicate m.length false) [] (by simp) (by simp)
    have hpl := specT_len l m.length S.length A2 (List.replicate m.length false)
    generalize (specT l m.length S.length A2 (List.replicate m.length false)).1 = P at *
    generalize (specT l m.length S.length A2 (List.replicate m.length false)).2 = A3 at *
    have tw3 := ht3.wf (a' := A3) hE4.wf
    have hE5 := (hE4.tapeN (a' := A3) (by omega) ht3).trans (mkF_ext tw3 P)
    have hp4 : ints (mkF (tapePut H3 b ver v A3) P).2 (mkF (tapePut H3 b ver v A3) P).1 = some P := ints_of_ownF (mkF_own _ P) (by omega)
    have hs4 : ints (mkF (tapePut H3 b ver v A3) P).2 sv = some S := by
      refine ints_ext (mkF_ext tw3 P).pre ?_
      unfold tapePut; rw [ints_put hof3]; exact his3
    have hm4 : ints (mkF (tapePut H3 b ver v A3) P).2 sz = some m := by
      refine ints_ext (mkF_ext tw3 P).pre ?_
      unfold tapePut; rw [ints_put hmo]; exact him3
    generalize hr4 : mkF (tapePut H3 b ver v A3) P = r4 at *
    obtain ⟨pv, H4⟩ := r4
    simp only at hE5 hp4 hs4 hm4
    simp only [← alen22] at hlS
    replace hp4 := Hide.mk hp4
    replace hs4 := Hide.mk hs4
    replace hm4 := Hide.mk hm4
    replace hE5 := Hide.mk hE5
    replace hs := Hide.mk hs
    replace hmem := Hide.mk hmem
    replace hsp := Hide.mk hsp
    replace hr := Hide.mk hr
    clear ht2 hm2 hE3 ht3 hE4 ho3 hof3 his3 him3 hmo hr3 hr4 hl
    repeat' (first | apply goSeq | apply goReg | apply goSeqN | apply goSeqR | apply goSkip | apply goRet | apply goNil | apply goBlock | apply goExit | apply goBlkN | apply goBlkR | apply goBlkE | apply goSeqE | apply goLoopR | apply goLoopE | (apply goOp; (· (simp [*]; try exact rfl)); (· exact rfl)) | (apply goOp0; (· (simp [*]; try exact rfl)); (· exact rfl)) | (apply goYes; (· (simp [*]; done)); (· (simp [*]; try exact rfl)); (· exact rfl)) | (apply goNo; (· (simp [*]; done))) | (apply goNoU; (· (simp; exact rfl))) | (apply goIfT; (· (simp [*]; done))) | (apply goIfF; (· (simp [*]; done))) | (apply goIf; (· (simp; exact rfl)); (· with_reducible exact rfl)) | (apply goSplit; (· (simp; exact rfl)); (· with_reducible exact rfl)) | (apply goIfQ; (· (simp; exact rfl)); (· exact rfl)) | (apply goSplitQ; (· (simp; exact rfl)); (· exact rfl)) | (apply goBlkX; (· rfl)) | intro _)
    have hE5 := hE5.out
    have hmem := hmem.out
    have hs := hs.out
    have hsp := hsp.out
    clear tw tw3 e17 e18 hn0 hn3 hk0 hk1 hk hlt hver1 hver2 hA hvs
    have hp4 := hp4.out
    have hs4 := hs4.out
    have hm4 := hm4.out
    have hix := aidxS_ints hs4 .i64
    have hld := aload_nth T3 rfl hs4
    simp only [← aidx22] at hix
    have hsph := Hide.mk hsp
    have hsh := Hide.mk hs
    clear hsp hs
    replace hE5 := Hide.mk hE5
    replace hp4 := Hide.mk hp4
    replace hs4 := Hide.mk hs4
    replace hm4 := Hide.mk hm4
    replace hmem := Hide.mk hmem
    -- the product of the lengths
    refine goLoop (fun mm s1 G => G = H4 ∧ ∃ (i : Nat) (n : Int), mm = S.length - i ∧ i ≤ S.length ∧ get s1 4 = sz ∧ get s1 5 = sv ∧ get s1 6 = pv ∧ get s1 7 = .int .i64 0 ∧ get s1 8 = .int .i64 n ∧ get s1 37 = sv ∧ get s1 38 = .int .i64 S.length ∧ get s1 39 = .int .i64 i ∧ prodW n (S.drop i) = prodW 1 S) S.length ?_ ?_
    · exact ⟨rfl, 0, 1, rfl, Nat.zero_le _, rfl, rfl, rfl, rfl, rfl, rfl, rfl, rfl, rfl⟩
    rintro mm s1 G ⟨rfl, i, n, hmm, hi, g1, g2, g3, g4, g5, g6, g7, g8, hgo⟩
    simp only [cut_cons, cut_nil, g1, g2, g3, g4, g5, g6, g7, g8]
    clear g1 g2 g3 g4 g5 g6 g7 g8
    have hi0 : (0 : Int) ≤ i := Int.natCast_nonneg i
    have hw1 : w ((i : Int) + 1) = ((i + 1 : Nat) : Int) := w_id (by omega)
    have hd := fun h => drop_nth S i h
    have hnil : ¬ i < S.length → S.drop i = [] := fun h => List.drop_of_length_le (by omega)
    replace hgo := Hide.mk hgo
    repeat' (first | apply goSeq | apply goReg | apply goSeqN | apply goSeqR | apply goSkip | apply goRet | apply goNil | apply goBlock | apply goExit | apply goBlkN | apply goBlkR | apply goBlkE | apply goSeqE | apply goLoopR | apply goLoopE | (apply goOp; (· (simp [*]; try exact rfl)); (· exact rfl)) | (apply goOp0; (· (simp [*]; try exact rfl)); (· exact rfl)) | (apply goYes; (· (simp [*]; done)); (· (simp [*]; try exact rfl)); (· exact rfl)) | (apply goNo; (· (simp [*]; done))) | (apply goNoU; (· (simp; exact rfl))) | (apply goIfT; (· (simp [*]; done))) | (apply goIfF; (· (simp [*]; done))) | (apply goIf; (· (simp; exact rfl)); (· with_reducible exact rfl)) | (apply goSplit; (· (simp; exact rfl)); (· with_reducible exact rfl)) | (apply goIfQ; (· (simp; exact rfl)); (· exact rfl)) | (apply goSplitQ; (· (simp; exact rfl)); (· exact rfl)) | (apply goBlkX; (· rfl)) | intro _)
    · rename_i hil
      refine goLoopN (S.length - (i + 1)) (by omega) ⟨rfl, i + 1, _, rfl, by omega, rfl, rfl, rfl, rfl, rfl, rfl, rfl, rfl, ?_⟩
      rw [← hgo.out, hd hil]
      rfl
    rename_i hil
    have hn : n = prodW 1 S := by have := hgo.out; rw [hnil hil] at this; exact this
    subst hn
    clear hd hnil hgo hw1 hi0
    have hmem := hmem.out
    have hsp := hsph.out
    have hs := hsh.out
    obtain ⟨hdp, hd8, hml'⟩ := (six_ok m hmem).2
    obtain ⟨D, hD⟩ : ∃ D : Nat, devs m = D := ⟨(devs m).toNat, by omega⟩
    have hrD : rDevs m = D := by rw [rDevs_eq, hD]
    have hp4 := hp4.out
    have hs4 := hs4.out
    have hm4 := hm4.out
    have hE5 := hE5.out
    have hmo4 : (mkS G (sizeL S m P 0)).2 = (mkS G (sizeL S m P 0)).2 := rfl
    have hE6 := mkS_ext hE5.wf (sizeL S m P 0)
    have hlmo := (share_at hmem hs h3 hpl hsp (d := 0) (by omega)).2.2.1
    have hmv := ints_of_own (mkS_own G (sizeL S m P 0)) (by omega)
    have e19 : F19 [sv, sz, pv] G = some (mkS G (sizeL S m P 0)) := by
      simp only [F19, hp4, hs4, hm4, Option.bind_some, Option.map_some]
    have hp5 := ints_ext hE6.pre hp4
    have hs5 := ints_ext hE6.pre hs4
    have hm5 := ints_ext hE6.pre hm4
    generalize hr5 : mkS G (sizeL S m P 0) = r5 at *
    obtain ⟨mv, G5⟩ := r5
    simp only at hE6 hmv hp5 hs5 hm5
    clear hp4 hs4 hm4 hmo4 hr5 hs hsp hmem hld hix
    replace hp5 := Hide.mk hp5
    replace hs5 := Hide.mk hs5
    replace hm5 := Hide.mk hm5
    replace hmv := Hide.mk hmv
    replace hE5 := Hide.mk hE5
    replace hE6 := Hide.mk hE6
    replace hlmo := Hide.mk hlmo
    replace hD := Hide.mk hD
    refine goOp (v := mv) (H' := G5) rfl (by simp [-F19_at, e19]) ?_
    repeat' (first | apply goSeq | apply goReg | apply goSeqN | apply goSeqR | apply goSkip | apply goRet | apply goNil | apply goBlock | apply goExit | apply goBlkN | apply goBlkR | apply goBlkE | apply goSeqE | apply goLoopR | apply goLoopE | (apply goOp; (· (simp [*]; try exact rfl)); (· exact rfl)) | (apply goOp0; (· (simp [*]; try exact rfl)); (· exact rfl)) | (apply goYes; (· (simp [*]; done)); (· (simp [*]; try exact rfl)); (· exact rfl)) | (apply goNo; (· (simp [*]; done))) | (apply goNoU; (· (simp; exact rfl))) | (apply goIfT; (· (simp [*]; done))) | (apply goIfF; (· (simp [*]; done))) | (apply goIf; (· (simp; exact rfl)); (· with_reducible exact rfl)) | (apply goSplit; (· (simp; exact rfl)); (· with_reducible exact rfl)) | (apply goIfQ; (· (simp; exact rfl)); (· exact rfl)) | (apply goSplitQ; (· (simp; exact rfl)); (· exact rfl)) | (apply goBlkX; (· rfl)) | intro _)
    clear e19
    -- the devices
    refine goLoop (fun mm s1 G1 => ∃ d : Nat, mm = D - d ∧ d ≤ D ∧ get s1 4 = sz ∧ get s1 5 = sv ∧ get s1 6 = pv ∧ get s1 7 = .int .i64 (sumD S m P d) ∧ get s1 8 = .int .i64 (prodW 1 S) ∧ get s1 11 = mv ∧ get s1 12 = .int .i64 d ∧ Ext G5 G1) D ?_ ?_
    · exact ⟨0, rfl, Nat.zero_le _, rfl, rfl, rfl, rfl, rfl, rfl, rfl, Ext.refl hE6.out.wf⟩
    clear hil hmm
    rintro mm s1 G1 ⟨d, hmm, hd, g1, g2, g3, g4, g5, g6, g7, he⟩
    simp only [cut_cons, cut_nil, g1, g2, g3, g4, g5, g6, g7]
    clear g1 g2 g3 g4 g5 g6 g7
    have hd0 : (0 : Int) ≤ d := Int.natCast_nonneg d
    have hw1 : w ((d : Int) + 1) = ((d + 1 : Nat) : Int) := w_id (by have := hD.out; omega)
    have hp6 := ints_ext he.pre hp5.out
    have hs6 := ints_ext he.pre hs5.out
    have hm6 := ints_ext he.pre hm5.out
    by_cases hdD : d < D
    · have hdv : (d : Int) < devs m := by have := hD.out; omega
      obtain ⟨hl1, hl2, _, hle, _⟩ := share_at hmem.out hsh.out h3 hpl hsph.out hdv
      have hsum : w (sumD S m P d + prodW 1 (sizeL S m P d)) = sumD S m P (d + 1) := rfl
      have hlmv := alenS_ints hmv.out
      have hE7 := mkS_ext he.wf (sizeL S m P d)
      have hz := ints_of_own (mkS_own G1 (sizeL S m P d)) (by omega)
      have e21 : F21 [sv, sz, pv, .int .i64 d] G1 = some (mkS G1 (sizeL S m P d)) := by
        simp only [F21, hp6, hs6, hm6, Option.bind_some, Option.map_some]
      generalize sizeL S m P d = Z at *
      generalize sizeL S m P 0 = Mo at *
      generalize hr7 : mkS G1 Z = r7 at *
      obtain ⟨zv, G7⟩ := r7
      simp only at hE7 hz
      have hE8 := mkS_ext hE7.wf (fromL S m P d)
      have hf := ints_of_own (mkS_own G7 (fromL S m P d)) (by omega)
      have e22 : F22 [sv, sz, pv, .int .i64 d] G7 = some (mkS G7 (fromL S m P d)) := by
        have hp7 := ints_ext hE7.pre hp6
        have hs7 := ints_ext hE7.pre hs6
        have hm7 := ints_ext hE7.pre hm6
        simp only [F22, hp7, hs7, hm7, Option.bind_some, Option.map_some]
      generalize fromL S m P d = Fr at *
      generalize hr8 : mkS G7 Fr = r8 at *
      obtain ⟨fv, G8⟩ := r8
      simp only at hE8 hf
      have hz8 := ints_ext hE8.pre hz
      have hmv8 := ints_ext (hE7.pre.trans hE8.pre) (ints_ext he.pre hmv.out)
      have hlz := alenS_ints hz
      have hlf := alenS_ints hf
      have hixz := aidxS_ints hz8 .i64
      have hixm := aidxS_ints hmv8 .i64
      have hldz := aload_nth T3 rfl hz8
      have hldm := aload_nth T3 rfl hmv8
      rw [hlmo.out] at hlmv hixm hldm
      rw [hl1] at hlz hixz hldz
      rw [hl2] at hlf
      have hng : ∀ i : Nat, ¬ nth Mo i < nth Z i := fun i => by have := hle i; omega
      simp only [← alen22] at hlmv hlz hlf
      simp only [← aidx22] at hixz hixm
      have heh := Hide.mk he
      have hzl := Hide.mk hl1
      have hmh := Hide.mk hmm
      have hdh := Hide.mk hd
      clear he hz hf hz8 hmv8 hle hp6 hs6 hr7 hr8 hl1 hl2 hmm hd
      replace hE7 := Hide.mk hE7
      replace hE8 := Hide.mk hE8
      replace hsum := Hide.mk hsum
      repeat' (first | apply goSeq | apply goReg | apply goSeqN | apply goSeqR | apply goSkip | apply goRet | apply goNil | apply goBlock | apply goExit | apply goBlkN | apply goBlkR | apply goBlkE | apply goSeqE | apply goLoopR | apply goLoopE | (apply goOp; (· (simp [*]; try exact rfl)); (· exact rfl)) | (apply goOp0; (· (simp [*]; try exact rfl)); (· exact rfl)) | (apply goYes; (· (simp [*]; done)); (· (simp [*]; try exact rfl)); (· exact rfl)) | (apply goNo; (· (simp [*]; done))) | (apply goNoU; (· (simp; exact rfl))) | (apply goIfT; (· (simp [*]; done))) | (apply goIfF; (· (simp [*]; done))) | (apply goIf; (· (simp; exact rfl)); (· with_reducible exact rfl)) | (apply goSplit; (· (simp; exact rfl)); (· with_reducible exact rfl)) | (apply goIfQ; (· (simp; exact rfl)); (· exact rfl)) | (apply goSplitQ; (· (simp; exact rfl)); (· exact rfl)) | (apply goBlkX; (· rfl)) | intro _)
      clear e21 e22 hlf
      refine goLoop (fun m2 s2 G2 => G2 = G8 ∧ ∃ (i : Nat) (n : Int), m2 = Z.length - i ∧ i ≤ Z.length ∧ get s2 4 = sz ∧ get s2 5 = sv ∧ get s2 6 = pv ∧ get s2 7 = .int .i64 (sumD S m P d) ∧ get s2 8 = .int .i64 (prodW 1 S) ∧ get s2 11 = mv ∧ get s2 12 = .int .i64 d ∧ get s2 13 = zv ∧ get s2 14 = .int .i64 n ∧ get s2 86 = .int .i64 S.length ∧ get s2 87 = .int .i64 i ∧ prodW n (Z.drop i) = prodW 1 Z) Z.length ?_ ?_
      · exact ⟨rfl, 0, 1, rfl, Nat.zero_le _, rfl, rfl, rfl, rfl, rfl, rfl, rfl, rfl, rfl, rfl, rfl, rfl⟩
      clear hlS hlmv hlz hrD hm6
      rintro m2 s2 G2 ⟨rfl, i, n, hmm, hi, g1, g2, g3, g4, g5, g6, g7, g8, g9, g10, g11, hgo⟩
      simp only [cut_cons, cut_nil, g1, g2, g3, g4, g5, g6, g7, g8, g9, g10, g11]
      clear g1 g2 g3 g4 g5 g6 g7 g8 g9 g10 g11
      have hi0 : (0 : Int) ≤ i := Int.natCast_nonneg i
      have hw2 : w ((i : Int) + 1) = ((i + 1 : Nat) : Int) := w_id (by have := hzl.out; omega)
      have hd := fun h => drop_nth Z i h
      have hnil : ¬ i < Z.length → Z.drop i = [] := fun h => List.drop_of_length_le (by omega)
      replace hgo := Hide.mk hgo
      replace hd := Hide.mk hd
      replace hnil := Hide.mk hnil
      repeat' (first | apply goSeq | apply goReg | apply goSeqN | apply goSeqR | apply goSkip | apply goRet | apply goNil | apply goBlock | apply goExit | apply goBlkN | apply goBlkR | apply goBlkE | apply goSeqE | apply goLoopR | apply goLoopE | (apply goOp; (· (simp [*]; try exact rfl)); (· exact rfl)) | (apply goOp0; (· (simp [*]; try exact rfl)); (· exact rfl)) | (apply goYes; (· (simp [*]; done)); (· (simp [*]; try exact rfl)); (· exact rfl)) | (apply goNo; (· (simp [*]; done))) | (apply goNoU; (· (simp; exact rfl))) | (apply goIfT; (· (simp [*]; done))) | (apply goIfF; (· (simp [*]; done))) | (apply goIf; (· (simp; exact rfl)); (· with_reducible exact rfl)) | (apply goSplit; (· (simp; exact rfl)); (· with_reducible exact rfl)) | (apply goIfQ; (· (simp; exact rfl)); (· exact rfl)) | (apply goSplitQ; (· (simp; exact rfl)); (· exact rfl)) | (apply goBlkX; (· rfl)) | intro _)
      · rename_i hil
        have hzl := hzl.out
        refine goLoopN (Z.length - (i + 1)) (by omega) ⟨rfl, i + 1, _, rfl, by omega, rfl, rfl, rfl, rfl, rfl, rfl, rfl, rfl, rfl, rfl, rfl, ?_⟩
        rw [← hgo.out, hd.out (by omega)]
        rfl
      rename_i hil
      have hzl := hzl.out
      have hn : n = prodW 1 Z := by have := hgo.out; rw [hnil.out (by omega)] at this; exact this
      subst hn
      have hsum := hsum.out
      have hmm := hmh.out
      have hdd := hdh.out
      refine goLoopN (D - (d + 1)) (by omega) ⟨d + 1, rfl, by omega, rfl, rfl, rfl, ?_, rfl, rfl, rfl, (heh.out.trans hE7.out).trans hE8.out⟩
      simp [hsum]
    · have hdD' : d = D := by omega
      subst hdD'
      have hlaw : sumD S m P d = w (prodW 1 S * rCopies m P) := by
        have h1 := sum_law hmem.out hsh.out h3 hpl hsph.out
        have h2 := hD.out
        rw [← h1]; congr 1; omega
      have hP : S.length < 1099511627776 := by omega
      have f24 : ∀ G, F24 [] G = some (.bool true) := fun G => rfl
      repeat' (first | apply goSeq | apply goReg | apply goSeqN | apply goSeqR | apply goSkip | apply goRet | apply goNil | apply goBlock | apply goExit | apply goBlkN | apply goBlkR | apply goBlkE | apply goSeqE | apply goLoopR | apply goLoopE | (apply goOp; (· (simp [*]; try exact rfl)); (· exact rfl)) | (apply goOp0; (· (simp [*]; try exact rfl)); (· exact rfl)) | (apply goYes; (· (simp [*]; done)); (· (simp [*]; try exact rfl)); (· exact rfl)) | (apply goNo; (· (simp [*]; done))) | (apply goNoU; (· (simp; exact rfl))) | (apply goIfT; (· (simp [*]; done))) | (apply goIfF; (· (simp [*]; done))) | (apply goIf; (· (simp; exact rfl)); (· with_reducible exact rfl)) | (apply goSplit; (· (simp; exact rfl)); (· with_reducible exact rfl)) | (apply goIfQ; (· (simp; exact rfl)); (· exact rfl)) | (apply goSplitQ; (· (simp; exact rfl)); (· exact rfl)) | (apply goBlkX; (· rfl)) | intro _)
      exact goEnd hw (hE5.out.pre.trans (hE6.out.pre.trans he.pre)) (by simp) (by simp [rs3]; exact rfl) rfl (by simp [hlaw])
  · cases hv
end Go.Proofs.Ytokadkakmhfdeaa.Pq
