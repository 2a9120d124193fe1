/- What the proof of a statement of this seat rests on, part 8: PqY7. -/
import Derived.Test.YtokadkakmhfdeaaMgSplitTells7
set_option linter.unusedVariables false
set_option linter.unusedSimpArgs false
set_option linter.unusedSectionVars false
namespace Go.Proofs.Ytokadkakmhfdeaa.Pq
open Go.RowKit
/- Walks: SplitTells. -/
theorem xdo_slice45 {E : Env} {sh : Bool} {s : Sl} {H : Hp} (x lo hi mx) : xdo E T sh (.slice 45 x lo hi mx) s H = (aslice 2 (ev s x) (lo.map (ev s)) (hi.map (ev s)) (mx.map (ev s))).map fun v => (v, H) := by
  simp [xdo, aop, D45, T40]
def aand (a b : Int) : Int := IntKind.i64.wrap (BitVec.ofInt 64 a &&& BitVec.ofInt 64 b).toNat
theorem abin_and (t : Nat) (a b : Int) : abin T .and t (.int .i64 a) (.int .i64 b) = some (.int .i64 (aand a b)) := rfl
theorem F33_of {H : Hp} {t a b : AV} {p : TS} {sz sp : List Int} (ht : tens H t = some p) (ha : ints H a = some sz) (hb : ints H b = some sp) (d : Int) : F33 [t, a, b, .int .i64 d] H = some (.bool true) := by
  show (tens H t).bind _ = _
  rw [ht, Option.bind_some, ha, Option.bind_some, hb, Option.map_some]
theorem F35_of {H : Hp} {l s a b : AV} {L : List TS} {sh sz sp : List Int} (hl : tensL H l = some L) (hs : ints H s = some sh) (ha : ints H a = some sz) (hb : ints H b = some sp) : F35 [l, s, a, b] H = some (.bool true) := by
  show (tensL H l).bind _ = _
  rw [hl, Option.bind_some, hs, Option.bind_some, ha, Option.bind_some, hb, Option.map_some]
/-- What 'w' is: a list of tensors of which one has been put in anew. -/
theorem tensL_put {H : Hp} {b ver k : Nat} {vs : List AV} {x y : AV} {M : List TS} {q : TS} {es : Bool} (hat : H.at b ver = some ⟨ver, (vs.set (k * 2) x).set (k * 2 + 1) y, true, true⟩) (hv : vs.length = M.length * 2) (hM : tensG H vs = some M) (hk : k < M.length) (hn : M.length ≤ 2932031007402) (hq : tens H (.agg [x, y]) = some q) :
    tensL H (.sl b ver 0 M.length 2 es) = some (M.set k q) := by
  simp only [tensL, hat, Option.bind_some]
  rw [if_pos ⟨trivial, hn⟩, if_pos (by simp; omega), List.drop_zero, List.take_of_length_le (by simp; omega)]
  refine tensG_mk _ _ (by simp; omega) fun j hj => ?_
  rw [List.length_set] at hj
  rw [set2_at vs k j x y (by omega)]
  by_cases hjk : j = k
  · subst hjk
    refine ⟨x, y, by rw [if_pos rfl], ?_⟩
    rw [hq]
    simp [tth, List.getD_eq_getElem?_getD, hj]
  · rw [if_neg hjk]
    obtain ⟨x', y', g1, g2⟩ := (tensG_at vs hM).2 j hj
    refine ⟨x', y', g1, ?_⟩
    rw [g2]
    simp only [tth, List.getD_eq_getElem?_getD]
    rw [List.getElem?_set_ne (fun e => hjk e.symm)]
open Classical in
noncomputable def F9 (args : List AV) (H : Hp) : Option AV := match args with
  | [tv, raw, a, b, c, lv, .int .i64 _, .int .i64 _, .int .i64 _] => if (∃ l, ints H tv = some l ∧ In64 l) ∧ (∃ p, tens H raw = some p) ∧ (∃ l, ints H a = some l) ∧ (∃ l, ints H b = some l) ∧ (∃ l, ints H c = some l) ∧ (∃ l, tensL H lv = some l) then some (.bool true) else none
  | _ => none
set_option maxHeartbeats 8000000 in
theorem snd9 : Sound Try.prog 9 (FSem.pure F9).run := by
  refine sound_of hT (EOK_cons snd31 (EOK_cons snd33 (EOK_cons snd34 (EOK_cons snd35 (EOK_cons snd36 (EOK_nil _)))))) mixed A9 Try.func9 hb9 (by kernel_rfl) (by kernel_rfl) (by kernel_rfl) (by kernel_rfl) sh9 9 (by kernel_rfl) rs9 hr9 ?_
  intro args H r H' hw h
  obtain ⟨rfl, hv⟩ := pureAt h
  clear h
  unfold F9 at hv
  split at hv
  rotate_left
  · cases hv
  rename_i tv raw av bv cv lv dd ii nn
  split at hv
  rotate_left
  · cases hv
  rename_i hex
  obtain ⟨⟨l, hl, hr⟩, ⟨p0, hp0⟩, ⟨sz0, hsz0⟩, ⟨sp0, hsp0⟩, ⟨sh0, hsh0⟩, ⟨L0, hL0⟩⟩ := hex
  cases hv
  obtain ⟨rx, ry, rfl, hrx, hry⟩ := tens_some hp0
  have orx := ints_one' hrx
  have ory := ints_one' hry
  have g := made_good hr
  have e31 : ∀ Hx, Fm ⟨H', []⟩ Hx → F31 [tv] Hx = some (mk (madeTr l) Hx) := fun Hx hF => F31_at (ints_ext hF.pre' hl) hr
  have hm3 := (six_ok _ g.six).2.2.2
  have hmay := g.may
  have hpl := g.pl
  have hs3 := g.s3
  have hdl : ((mdD l).1.length : Int) = sizeOf (mdS l).1 := by
    have := g.tok
    simp only [tOK, Bool.and_eq_true, decide_eq_true_eq] at this
    exact this.2
  have hsz4 := sizeOf_le (mdS l).1
  obtain ⟨hd1, hd2, hd3⟩ := g.dv
  have hlL := (tensL_at hL0).1
  have hL5 : ∃ v5 L5, tensL H' v5 = some L5 ∧ ((9 < L0.length ∧ aslice 2 lv none (some (.int .i64 9)) none = some v5) ∨ (¬ 9 < L0.length ∧ v5 = lv)) := by
    by_cases h9 : 9 < L0.length
    · obtain ⟨v', h1, h2⟩ := ts_pre hL0 9 (by omega) (by omega)
      exact ⟨v', _, h2, .inl ⟨h9, h1⟩⟩
    · exact ⟨lv, L0, hL0, .inr ⟨h9, rfl⟩⟩
  obtain ⟨v5, L5, h5, hc5⟩ := hL5
  unfold madeTr at e31
  generalize (mdS l).1 = S at *
  generalize (mdD l).1 = D at *
  generalize mdM l = M at *
  generalize (mdP l).1 = P at *
  refine ⟨rfl, go (zStart (SL.nil hw []) ?_)⟩
  unfold c9
  simp only [argSl]
  have hx45 := @xdo_slice45
  have hab := abin_and
  have hn : ∃ n : Nat, devs M = n ∧ 0 < n ∧ n ≤ 8 := ⟨(devs M).toNat, by omega, by omega, by omega⟩
  obtain ⟨n, hn, hn0, hn8⟩ := hn
  have h9 : ((9 : Int) < L0.length ∧ aslice 2 lv none (some (.int .i64 9)) none = some v5) ∨ (¬ (9 : Int) < L0.length ∧ v5 = lv) := by
    rcases hc5 with ⟨h, h'⟩ | ⟨h, h'⟩
    · exact .inl ⟨by omega, h'⟩
    · exact .inr ⟨by omega, h'⟩
  clear hc5
  rcases h9 with ⟨h9, h9s⟩ | ⟨h9, rfl⟩
  all_goals (
    repeat' (first | apply zSeq | apply zReg | apply zSeqN | apply zSeqR | apply zSkip | apply zRet | apply zNil | apply zBlock | apply zExit | apply zBlkN | apply zBlkR | apply zBlkE | apply zSeqE | apply zLoopR | apply zLoopE | refine yYes' ?_ | refine yNo' ?_ | refine yNoU' ?_ | refine yLd' ?_ | refine yLdI' ?_ | refine yStS' ?_ | refine yStF' ?_ | refine ySt' ?_ | refine yBS' fun _ _ => ?_ | refine yAlloc' fun _ _ => ?_ | refine yBox' fun _ _ => ?_ | refine yOp' ?_ | refine yIfT ?_ | refine yIfF ?_ | refine yIf ?_ ?_ | refine ySplit' ?_ ?_ | refine yIfQ ?_ ?_ | refine ySplitQ' ?_ ?_ | refine yBlkX ?_ | intro _)
    rename_i b10 v10
    refine zCall' (F := F31) (args := [tv]) rfl rfl rfl (fun Hx hS hF => e31 Hx hF) fun v => ?_
    refine zTup3' fun t1 mv pv h => ?_
    subst h
    refine zAgg2' fun sx dy h => ?_
    subst h
    refine zNum' .here (numsT_C (by omega)) fun o1 _ _ => ?_
    refine zNum' (.there .here) (numsT_S (by omega)) fun o2 _ _ => ?_
    repeat' (first | apply zSeq | apply zReg | apply zSeqN | apply zSeqR | apply zSkip | apply zRet | apply zNil | apply zBlock | apply zExit | apply zBlkN | apply zBlkR | apply zBlkE | apply zSeqE | apply zLoopR | apply zLoopE | refine yYes' ?_ | refine yNo' ?_ | refine yNoU' ?_ | refine yLd' ?_ | refine yLdI' ?_ | refine yStS' ?_ | refine yStF' ?_ | refine ySt' ?_ | refine yBS' fun _ _ => ?_ | refine yAlloc' fun _ _ => ?_ | refine yBox' fun _ _ => ?_ | refine yOp' ?_ | refine yIfT ?_ | refine yIfF ?_ | refine yIf ?_ ?_ | refine ySplit' ?_ ?_ | refine yIfQ ?_ ?_ | refine ySplitQ' ?_ ?_ | refine yBlkX ?_ | intro _)
    rename_i b19 v19
    refine zCall' (F := F34) (args := [.agg [sx, dy], mv, pv]) (t := .tup [trTs (partsR (S, D) M P n), .at (.int .i64 0)]) rfl rfl rfl (fun Hx hS hF => ?_) fun v => ?_
    · have a1 : ints Hx sx = some S := Num.out (by first | exact Num.fz (by assumption) | exact Num.fz (Hide.out (by assumption)) | (apply Num.here (t := trS _); (· ((repeat (first | exact Fu.here | apply Fu.there)); done)); (· exact numsT_S (by first | omega | (simp; omega)))) | (apply Num.here (t := trF _); (· ((repeat (first | exact Fu.here | apply Fu.there)); done)); (· exact numsT_F (by first | omega | (simp; omega)))) | (apply Num.here (t := trC _); (· ((repeat (first | exact Fu.here | apply Fu.there)); done)); (· exact numsT_C (by first | omega | (simp; omega)))) | (apply Num.here (t := trB true _); (· ((repeat (first | exact Fu.here | apply Fu.there)); done)); (· exact numsT_F (by first | omega | (simp; omega)))) | (apply Num.here (t := trB false _); (· ((repeat (first | exact Fu.here | apply Fu.there)); done)); (· exact numsT_S (by first | omega | (simp; omega))))) Hx hS
      have a2 : ints Hx dy = some D := Num.out (by first | exact Num.fz (by assumption) | exact Num.fz (Hide.out (by assumption)) | (apply Num.here (t := trS _); (· ((repeat (first | exact Fu.here | apply Fu.there)); done)); (· exact numsT_S (by first | omega | (simp; omega)))) | (apply Num.here (t := trF _); (· ((repeat (first | exact Fu.here | apply Fu.there)); done)); (· exact numsT_F (by first | omega | (simp; omega)))) | (apply Num.here (t := trC _); (· ((repeat (first | exact Fu.here | apply Fu.there)); done)); (· exact numsT_C (by first | omega | (simp; omega)))) | (apply Num.here (t := trB true _); (· ((repeat (first | exact Fu.here | apply Fu.there)); done)); (· exact numsT_F (by first | omega | (simp; omega)))) | (apply Num.here (t := trB false _); (· ((repeat (first | exact Fu.here | apply Fu.there)); done)); (· exact numsT_S (by first | omega | (simp; omega))))) Hx hS
      have a3 : ints Hx mv = some M := Num.out (by first | exact Num.fz (by assumption) | exact Num.fz (Hide.out (by assumption)) | (apply Num.here (t := trS _); (· ((repeat (first | exact Fu.here | apply Fu.there)); done)); (· exact numsT_S (by first | omega | (simp; omega)))) | (apply Num.here (t := trF _); (· ((repeat (first | exact Fu.here | apply Fu.there)); done)); (· exact numsT_F (by first | omega | (simp; omega)))) | (apply Num.here (t := trC _); (· ((repeat (first | exact Fu.here | apply Fu.there)); done)); (· exact numsT_C (by first | omega | (simp; omega)))) | (apply Num.here (t := trB true _); (· ((repeat (first | exact Fu.here | apply Fu.there)); done)); (· exact numsT_F (by first | omega | (simp; omega)))) | (apply Num.here (t := trB false _); (· ((repeat (first | exact Fu.here | apply Fu.there)); done)); (· exact numsT_S (by first | omega | (simp; omega))))) Hx hS
      have a4 : ints Hx pv = some P := Num.out (by first | exact Num.fz (by assumption) | exact Num.fz (Hide.out (by assumption)) | (apply Num.here (t := trS _); (· ((repeat (first | exact Fu.here | apply Fu.there)); done)); (· exact numsT_S (by first | omega | (simp; omega)))) | (apply Num.here (t := trF _); (· ((repeat (first | exact Fu.here | apply Fu.there)); done)); (· exact numsT_F (by first | omega | (simp; omega)))) | (apply Num.here (t := trC _); (· ((repeat (first | exact Fu.here | apply Fu.there)); done)); (· exact numsT_C (by first | omega | (simp; omega)))) | (apply Num.here (t := trB true _); (· ((repeat (first | exact Fu.here | apply Fu.there)); done)); (· exact numsT_F (by first | omega | (simp; omega)))) | (apply Num.here (t := trB false _); (· ((repeat (first | exact Fu.here | apply Fu.there)); done)); (· exact numsT_S (by first | omega | (simp; omega))))) Hx hS
      show (tens Hx _).bind _ = _
      rw [tens_of a1 a2, Option.bind_some, a3, Option.bind_some, a4, Option.map_some]
      simp [allR, hmay, hn]
    refine zTup2' fun u22 ev h => ?_
    subst h
    refine zAt' (.there .here) fun h => ?_
    subst h
    repeat' (first | apply zSeq | apply zReg | apply zSeqN | apply zSeqR | apply zSkip | apply zRet | apply zNil | apply zBlock | apply zExit | apply zBlkN | apply zBlkR | apply zBlkE | apply zSeqE | apply zLoopR | apply zLoopE | refine yYes' ?_ | refine yNo' ?_ | refine yNoU' ?_ | refine yLd' ?_ | refine yLdI' ?_ | refine yStS' ?_ | refine yStF' ?_ | refine ySt' ?_ | refine yBS' fun _ _ => ?_ | refine yAlloc' fun _ _ => ?_ | refine yBox' fun _ _ => ?_ | refine yOp' ?_ | refine yIfT ?_ | refine yIfF ?_ | refine yIf ?_ ?_ | refine ySplit' ?_ ?_ | refine yIfQ ?_ ?_ | refine ySplitQ' ?_ ?_ | refine yBlkX ?_ | intro _)
    rename_i b44 v44
    refine zBaseL (fun H1 => rfl) fun H1 hS1 => ?_
    have a1 : ints H1 sx = some S := Num.out (by first | exact Num.fz (by assumption) | exact Num.fz (Hide.out (by assumption)) | (apply Num.here (t := trS _); (· ((repeat (first | exact Fu.here | apply Fu.there)); done)); (· exact numsT_S (by first | omega | (simp; omega)))) | (apply Num.here (t := trF _); (· ((repeat (first | exact Fu.here | apply Fu.there)); done)); (· exact numsT_F (by first | omega | (simp; omega)))) | (apply Num.here (t := trC _); (· ((repeat (first | exact Fu.here | apply Fu.there)); done)); (· exact numsT_C (by first | omega | (simp; omega)))) | (apply Num.here (t := trB true _); (· ((repeat (first | exact Fu.here | apply Fu.there)); done)); (· exact numsT_F (by first | omega | (simp; omega)))) | (apply Num.here (t := trB false _); (· ((repeat (first | exact Fu.here | apply Fu.there)); done)); (· exact numsT_S (by first | omega | (simp; omega))))) H1 hS1
    have a2 : ints H1 dy = some D := Num.out (by first | exact Num.fz (by assumption) | exact Num.fz (Hide.out (by assumption)) | (apply Num.here (t := trS _); (· ((repeat (first | exact Fu.here | apply Fu.there)); done)); (· exact numsT_S (by first | omega | (simp; omega)))) | (apply Num.here (t := trF _); (· ((repeat (first | exact Fu.here | apply Fu.there)); done)); (· exact numsT_F (by first | omega | (simp; omega)))) | (apply Num.here (t := trC _); (· ((repeat (first | exact Fu.here | apply Fu.there)); done)); (· exact numsT_C (by first | omega | (simp; omega)))) | (apply Num.here (t := trB true _); (· ((repeat (first | exact Fu.here | apply Fu.there)); done)); (· exact numsT_F (by first | omega | (simp; omega)))) | (apply Num.here (t := trB false _); (· ((repeat (first | exact Fu.here | apply Fu.there)); done)); (· exact numsT_S (by first | omega | (simp; omega))))) H1 hS1
    have a3 : ints H1 mv = some M := Num.out (by first | exact Num.fz (by assumption) | exact Num.fz (Hide.out (by assumption)) | (apply Num.here (t := trS _); (· ((repeat (first | exact Fu.here | apply Fu.there)); done)); (· exact numsT_S (by first | omega | (simp; omega)))) | (apply Num.here (t := trF _); (· ((repeat (first | exact Fu.here | apply Fu.there)); done)); (· exact numsT_F (by first | omega | (simp; omega)))) | (apply Num.here (t := trC _); (· ((repeat (first | exact Fu.here | apply Fu.there)); done)); (· exact numsT_C (by first | omega | (simp; omega)))) | (apply Num.here (t := trB true _); (· ((repeat (first | exact Fu.here | apply Fu.there)); done)); (· exact numsT_F (by first | omega | (simp; omega)))) | (apply Num.here (t := trB false _); (· ((repeat (first | exact Fu.here | apply Fu.there)); done)); (· exact numsT_S (by first | omega | (simp; omega))))) H1 hS1
    have a4 : ints H1 pv = some P := Num.out (by first | exact Num.fz (by assumption) | exact Num.fz (Hide.out (by assumption)) | (apply Num.here (t := trS _); (· ((repeat (first | exact Fu.here | apply Fu.there)); done)); (· exact numsT_S (by first | omega | (simp; omega)))) | (apply Num.here (t := trF _); (· ((repeat (first | exact Fu.here | apply Fu.there)); done)); (· exact numsT_F (by first | omega | (simp; omega)))) | (apply Num.here (t := trC _); (· ((repeat (first | exact Fu.here | apply Fu.there)); done)); (· exact numsT_C (by first | omega | (simp; omega)))) | (apply Num.here (t := trB true _); (· ((repeat (first | exact Fu.here | apply Fu.there)); done)); (· exact numsT_F (by first | omega | (simp; omega)))) | (apply Num.here (t := trB false _); (· ((repeat (first | exact Fu.here | apply Fu.there)); done)); (· exact numsT_S (by first | omega | (simp; omega))))) H1 hS1
    have hM : tensL H1 u22 = some (allL (S, D) M P) := hS1.tsL 1 rfl (okT_TsR 0 _ _ _ _) (by rw [partsR_len, allL_len]; omega) (by rw [allL_len]; omega) (parts_all hmay fun j hj => partsR_at _ _ _ _ j (by omega))
    have r19 : aload T 40 (.ptr b19 v19 0) H1 = some (.agg [sx, dy]) := hS1.ld (by repeat (first | exact Fd.here rfl | apply Fd.there)) rfl (by simp [ldT, lvs]) rfl
    have r19' : aload T 22 (.ptr b19 v19 0) H1 = some sx := hS1.ld (by repeat (first | exact Fd.here rfl | apply Fd.there)) rfl (by simp [ldT, lvs]) rfl
    have r10 : aload T 40 (.ptr b10 v10 0) H1 = some (.agg [rx, ry]) := hS1.ld (by repeat (first | exact Fd.here rfl | apply Fd.there)) rfl (by simp [ldT, lvs]) rfl
    obtain ⟨vs0, bs0, q1, q2⟩ := hS1.cells (i := 0) rfl rfl rfl
    simp only [RXs] at q2
    obtain ⟨rfl, _⟩ := q2
    have h01 := hS1.ext rfl
    obtain ⟨vs, c1, c2, c3⟩ := tens_cells hM
    have hAL : (allL (S, D) M P).length = n := by rw [allL_len]; omega
    rw [hAL] at c1 c2
    clear hS1
    have k19 : ∀ Hx, Fm ⟨H1, []⟩ Hx → aload T 40 (.ptr b19 v19 0) Hx = some (.agg [sx, dy]) := fun Hx hF => aload_ext hF.pre' r19
    have k19' : ∀ Hx, Fm ⟨H1, []⟩ Hx → aload T 22 (.ptr b19 v19 0) Hx = some sx := fun Hx hF => aload_ext hF.pre' r19'
    have k10 : ∀ Hx, Fm ⟨H1, []⟩ Hx → aload T 40 (.ptr b10 v10 0) Hx = some (.agg [rx, ry]) := fun Hx hF => aload_ext hF.pre' r10
    have tm := tens_of a1 a2
    have p33 : ∀ d Hx, Fm ⟨H1, []⟩ Hx → F33 [.agg [sx, dy], mv, pv, .int .i64 d] Hx = some (.bool true) := fun d Hx hF => F33_of (tens_ext hF.pre' tm) (ints_ext hF.pre' a3) (ints_ext hF.pre' a4) d
    have p33a : ∀ d Hx, Fm ⟨H1, []⟩ Hx → F33 [.agg [rx, ry], av, bv, .int .i64 d] Hx = some (.bool true) := fun d Hx hF => F33_of (tens_ext (h01.pre.trans hF.pre') hp0) (ints_ext (h01.pre.trans hF.pre') hsz0) (ints_ext (h01.pre.trans hF.pre') hsp0) d
    have p33b : ∀ d Hx, Fm ⟨H1, []⟩ Hx → F33 [.agg [sx, dy], mv, bv, .int .i64 d] Hx = some (.bool true) := fun d Hx hF => F33_of (tens_ext hF.pre' tm) (ints_ext hF.pre' a3) (ints_ext (h01.pre.trans hF.pre') hsp0) d
    have p35a : ∀ Hx, Fm ⟨H1, []⟩ Hx → F35 [v5, cv, av, bv] Hx = some (.bool true) := fun Hx hF => F35_of (tensL_ext (h01.pre.trans hF.pre') h5) (ints_ext (h01.pre.trans hF.pre') hsh0) (ints_ext (h01.pre.trans hF.pre') hsz0) (ints_ext (h01.pre.trans hF.pre') hsp0)
    have p35b : ∀ Hx, Fm ⟨H1, []⟩ Hx → F35 [u22, cv, mv, pv] Hx = some (.bool true) := fun Hx hF => F35_of (tensL_ext hF.pre' hM) (ints_ext (h01.pre.trans hF.pre') hsh0) (ints_ext hF.pre' a3) (ints_ext hF.pre' a4)
    have p36 : ∀ Hx, F36 [] Hx = some (.bool true) := fun _ => rfl
    refine zNew' (.sl n 2 false (vs.map .at)) vs rfl (fun Hx hS hF => ?_) fun bw vw => ?_
    · have e1 := slCells_ext hF.pre' c1
      have e2 := hF.pre'.at q1
      rw [xdo_append]
      simp only [ev_tmp, get_cons]
      simp [aapp, D45, T40, aappend, e1, e2, c2, show ¬ n = 0 by omega, maxBytes, Tr.hd]
      omega
    dsimp only [Tr.hd]
    obtain ⟨k, hk, hkn⟩ := which ii n (by omega) (by omega)
    have hnz : ¬ (n : Int) = 0 := by omega
    have hnz' : ¬ n = 0 := by omega
    have hidx : aidx T 45 (.sl bw vw 0 n 2 false) (.int .i64 k) = some (.ptr bw vw (k * 2)) := by
      rw [aidx45]; simp only [aidxS]; rw [if_pos ⟨trivial, by omega, by omega⟩]; simp
    obtain ⟨x, y, gxy, gt⟩ := (tensG_at vs c3).2 k (by omega)
    obtain ⟨_, _, e, ix, iy⟩ := tens_some gt
    cases e
    have v1 : vs[k * 2]? = some x := by
      have := congrArg (fun l => l[0]?) gxy
      simpa using this
    have v2 : vs[k * 2 + 1]? = some y := by
      have := congrArg (fun l => l[1]?) gxy
      simpa using this
    have v1e : ∀ h : k * 2 < vs.length, vs[k * 2] = x := fun h => by have := v1; rw [List.getElem?_eq_getElem h] at this; exact Option.some.inj this
    have v2e : ∀ h : k * 2 + 1 < vs.length, vs[k * 2 + 1] = y := fun h => by have := v2; rw [List.getElem?_eq_getElem h] at this; exact Option.some.inj this
    have ox := ints_one' ix
    have zy := Fz.of iy
    generalize hdat : (tth (allL (S, D) M P) k).2 = dat at *
    have hdatl : dat.length ≤ 4096 := by
      rw [← hdat, allL_at _ _ _ (by omega)]
      exact partD_len _ _ _ _
    repeat' (first | apply zSeq | apply zReg | apply zSeqN | apply zSeqR | apply zSkip | apply zRet | apply zNil | apply zBlock | apply zExit | apply zBlkN | apply zBlkR | apply zBlkE | apply zSeqE | apply zLoopR | apply zLoopE | refine yYes' ?_ | refine yNo' ?_ | refine yNoU' ?_ | refine yLd' ?_ | refine yLdI' ?_ | refine yStS' ?_ | refine yStF' ?_ | refine ySt' ?_ | refine yBS' fun _ _ => ?_ | refine yAlloc' fun _ _ => ?_ | refine yBox' fun _ _ => ?_ | refine yOp' ?_ | refine yIfT ?_ | refine yIfF ?_ | refine yIf ?_ ?_ | refine ySplit' ?_ ?_ | refine yIfQ ?_ ?_ | refine ySplitQ' ?_ ?_ | refine yBlkX ?_ | intro _)
    apply zDrw
    repeat' (first | apply zSeq | apply zReg | apply zSeqN | apply zSeqR | apply zSkip | apply zRet | apply zNil | apply zBlock | apply zExit | apply zBlkN | apply zBlkR | apply zBlkE | apply zSeqE | apply zLoopR | apply zLoopE | refine yYes ?_ | refine yNo ?_ | refine yNoU ?_ | refine yLd ?_ | refine yLdI ?_ | refine yStS ?_ | refine yStF ?_ | refine ySt ?_ | refine yBS fun _ _ => ?_ | refine yAlloc fun _ _ => ?_ | refine yBox fun _ _ => ?_ | refine yOp ?_ | refine yIfT ?_ | refine yIfF ?_ | refine yIf ?_ ?_ | refine ySplit ?_ ?_ | refine yIfQ ?_ ?_ | refine ySplitQ ?_ ?_ | refine yBlkX ?_ | intro _)
    refine zClone (n := dat) rfl rfl (.fz zy) (.inr rfl) (by omega) fun dv odv => ?_
    have hbld : bld40 x dv = some (.agg [x, dv]) := bld40_one ox odv
    have hk3 : k * 2 + 2 ≤ n * 2 := by omega
    repeat' (first | apply zSeq | apply zReg | apply zSeqN | apply zSeqR | apply zSkip | apply zRet | apply zNil | apply zBlock | apply zExit | apply zBlkN | apply zBlkR | apply zBlkE | apply zSeqE | apply zLoopR | apply zLoopE | refine yYes ?_ | refine yNo ?_ | refine yNoU ?_ | refine yLd ?_ | refine yLdI ?_ | refine yStS ?_ | refine yStF ?_ | refine ySt ?_ | refine yBS fun _ _ => ?_ | refine yAlloc fun _ _ => ?_ | refine yBox fun _ _ => ?_ | refine yOp ?_ | refine yIfT ?_ | refine yIfF ?_ | refine yIf ?_ ?_ | refine ySplit ?_ ?_ | refine yIfQ ?_ ?_ | refine ySplitQ ?_ ?_ | refine yBlkX ?_ | intro _)
    dsimp only [Md.add, List.append, List.nil_append, List.cons_append]
    refine zNilT ?_ ?_
    · simp only [AgainZ, List.cons_append, List.nil_append, List.getElem?_cons_zero, List.getElem?_cons_succ, XG_none]
      exact ⟨⟨x, (fun Hx hS => by have := hS.ld (b := bw) (ver := vw) (t := 22) (j := k * 2) (v := x) (by repeat (first | exact Fd.here rfl | apply Fd.there)) rfl (by simp [ldT, *]) rfl; simp [this]), (fun Hx hS => by have := hS.ld (b := bw) (ver := vw) (t := 22) (j := k * 2) (v := x) (by repeat (first | exact Fd.here rfl | apply Fd.there)) rfl (by simp [ldT, *]) rfl; simp [this])⟩, ⟨x, (fun Hx hS => by have := hS.ld (b := bw) (ver := vw) (t := 22) (j := k * 2) (v := x) (by repeat (first | exact Fd.here rfl | apply Fd.there)) rfl (by simp [ldT, *]) rfl; simp [this]), (fun Hx hS => by have := hS.ld (b := bw) (ver := vw) (t := 22) (j := k * 2) (v := x) (by repeat (first | exact Fd.here rfl | apply Fd.there)) rfl (by simp [ldT, *]) rfl; simp [this])⟩, ⟨y, (fun Hx hS => by have := hS.ld (b := bw) (ver := vw) (t := 38) (j := k * 2 + 1) (v := y) (by repeat (first | exact Fd.here rfl | apply Fd.there)) rfl (by simp [ldT, *]) rfl; simp [this]), (fun Hx hS => by have := hS.ld (b := bw) (ver := vw) (t := 38) (j := k * 2 + 1) (v := y) (by repeat (first | exact Fd.here rfl | apply Fd.there)) rfl (by simp [ldT, *]) rfl; simp [this])⟩, trivial⟩
    have hcs2 : ((vs.map Tr.at).set (k * 2) (Tr.at x)).set (k * 2 + 1) (Tr.at dv) = ((vs.set (k * 2) x).set (k * 2 + 1) dv).map Tr.at := by simp [List.map_set]
    rw [hcs2]
    clear hcs2
    refine zMK fun Hd hSd => ?_
    have hdi := hSd.ints 0 rfl (numsT_C (l := dat) (by omega))
    have ldv := alenS_ints hdi
    have idv := aidxS_ints hdi .i64
    simp only [← alen38, ← aidx38] at ldv idv
    clear hSd hdi Hd
    have p35w : ∀ (tr : Tr) (dat2 : List Int), numsT tr = some dat2 → ∀ Hx, SL ⟨H1, []⟩ [(dv, tr), (.sl bw vw 0 n 2 false, .sl n 2 false (((vs.set (k * 2) x).set (k * 2 + 1) dv).map Tr.at))] Hx → F35 [.sl bw vw 0 n 2 false, sx, mv, pv] Hx = some (.bool true) := by
      intro tr dat2 hn2 Hx hS
      have hF := hS.fm
      obtain ⟨ws, _, w1, w2⟩ := hS.cells (i := 1) rfl rfl rfl
      rw [RXs.leafEq _ w2 rfl] at w1
      have hdv := hS.ints 0 rfl hn2
      have ht := tens_of (ints_ext hF.pre' ix) hdv
      have := tensL_put (es := false) w1 (by rw [c2, hAL]) (tensG_ext hF.pre' vs c3) (by omega) (by omega) ht
      rw [hAL] at this
      exact F35_of this (ints_ext hF.pre' a1) (ints_ext hF.pre' a3) (ints_ext hF.pre' a4)
    obtain ⟨cs2, hcs⟩ : ∃ c, (vs.set (k * 2) x).set (k * 2 + 1) dv = c := ⟨_, rfl⟩
    rw [hcs] at p35w ⊢
    have hcl : cs2.length = n * 2 := by rw [← hcs, List.length_set, List.length_set, c2]
    have d1 : cs2[k * 2 + 1]? = some dv := by rw [← hcs, List.getElem?_set_self (by simp; omega)]
    have d1e : ∀ h : k * 2 + 1 < cs2.length, cs2[k * 2 + 1] = dv := fun h => by have := d1; rw [List.getElem?_eq_getElem h] at this; exact Option.some.inj this
    clear hcs v1 v2 v1e v2e gxy c3 hM c1
    by_cases hd0 : dat = []
    · subst hd0
      have q35 := p35w (trC []) [] rfl
      clear p35w
      repeat' (first | apply zSeq | apply zReg | apply zSeqN | apply zSeqR | apply zSkip | apply zRet | apply zNil | apply zBlock | apply zExit | apply zBlkN | apply zBlkR | apply zBlkE | apply zSeqE | apply zLoopR | apply zLoopE | refine yYes' ?_ | refine yNo' ?_ | refine yNoU' ?_ | refine yLd' ?_ | refine yLdI' ?_ | refine yStS' ?_ | refine yStF' ?_ | refine ySt' ?_ | refine yBS' fun _ _ => ?_ | refine yAlloc' fun _ _ => ?_ | refine yBox' fun _ _ => ?_ | refine yOp' ?_ | refine yIfT ?_ | refine yIfF ?_ | refine yIf ?_ ?_ | refine ySplit' ?_ ?_ | refine yIfQ ?_ ?_ | refine ySplitQ' ?_ ?_ | refine yBlkX ?_ | intro _)
      exact zEndP2 (vs := [.bool true]) hw h01 (by simp) (fun H1 hS => by simp [rs9]) rfl
    · have hdp : 0 < dat.length := List.length_pos_iff.2 hd0
      have hdp' : (0 : Int) < dat.length := by omega
      rw [show trC dat = trS dat from if_neg hd0]
      have q35 := p35w (trS (dat.set 0 nn)) _ (numsT_S (by simp; omega))
      clear p35w
      repeat' (first | apply zSeq | apply zReg | apply zSeqN | apply zSeqR | apply zSkip | apply zRet | apply zNil | apply zBlock | apply zExit | apply zBlkN | apply zBlkR | apply zBlkE | apply zSeqE | apply zLoopR | apply zLoopE | refine yYes' ?_ | refine yNo' ?_ | refine yNoU' ?_ | refine yLd' ?_ | refine yLdI' ?_ | refine yStS' ?_ | refine yStF' ?_ | refine ySt' ?_ | refine yBS' fun _ _ => ?_ | refine yAlloc' fun _ _ => ?_ | refine yBox' fun _ _ => ?_ | refine yOp' ?_ | refine yIfT ?_ | refine yIfF ?_ | refine yIf ?_ ?_ | refine ySplit' ?_ ?_ | refine yIfQ ?_ ?_ | refine ySplitQ' ?_ ?_ | refine yBlkX ?_ | intro _)
      exact zEndP2 (vs := [.bool true]) hw h01 (by simp) (fun H1 hS => by simp [rs9]) rfl)
end Go.Proofs.Ytokadkakmhfdeaa.Pq
