/- What the proof of a statement of this seat rests on, part 6: PqZs, PqZt, PqCA, PqWV, PqWW, PqWX, PqC5b, PqWFb, PqCB, PqX8, PqX9, PqWZ. -/
import Derived.Test.YtokadkakmhfdeaaMgSplitNumbers5
set_option linter.unusedVariables false
set_option linter.unusedSimpArgs false
set_option linter.unusedSectionVars false
namespace Go.Proofs.Ytokadkakmhfdeaa.Pq
open Go.RowKit
/- Walking rules that look for what is meant. -/
/-- A block is found, and made another. -/
inductive Fd : Nat → Lo → Nat → Nat → AV → Tr → Tr → Lo → Prop
  | here {L : Lo} {b ver : Nat} {u : AV} {t t' : Tr} : blkOf u = some (b, ver) → Fd 0 ((u, t) :: L) b ver u t t' ((u, t') :: L)
  | there {x : AV × Tr} {i : Nat} {L L' : Lo} {b ver : Nat} {u : AV} {t t' : Tr} : Fd i L b ver u t t' L' → Fd (i + 1) (x :: L) b ver u t t' (x :: L')
/-- A value is found, and made another. -/
inductive Fu : Nat → Lo → AV → Tr → AV → Tr → Lo → Prop
  | here {L : Lo} {u u' : AV} {t t' : Tr} : Fu 0 ((u, t) :: L) u t u' t' ((u', t') :: L)
  | there {x : AV × Tr} {i : Nat} {L L' : Lo} {u u' : AV} {t t' : Tr} : Fu i L u t u' t' L' → Fu (i + 1) (x :: L) u t u' t' (x :: L')
/-- A value is taken out. -/
inductive Fr : Lo → AV → Tr → Lo → Prop
  | here {L : Lo} {u : AV} {t : Tr} : Fr ((u, t) :: L) u t L
  | there {x : AV × Tr} {L L' : Lo} {u : AV} {t : Tr} : Fr L u t L' → Fr (x :: L) u t (x :: L')
theorem Fd.idx {i : Nat} {L L' : Lo} {b ver : Nat} {u : AV} {t t' : Tr} (h : Fd i L b ver u t t' L') : L[i]? = some (u, t) ∧ blkOf u = some (b, ver) ∧ L.set i (u, t') = L' := by
  induction h with
  | here hu => exact ⟨rfl, hu, rfl⟩
  | there _ ih => obtain ⟨h1, h2, h3⟩ := ih; exact ⟨by simpa using h1, h2, by simp [h3]⟩
theorem Fu.idx {i : Nat} {L L' : Lo} {u u' : AV} {t t' : Tr} (h : Fu i L u t u' t' L') : L[i]? = some (u, t) ∧ L.set i (u', t') = L' := by
  induction h with
  | here => exact ⟨rfl, rfl⟩
  | there _ ih => obtain ⟨h1, h3⟩ := ih; exact ⟨by simpa using h1, by simp [h3]⟩
theorem Fr.idx {L L' : Lo} {u : AV} {t : Tr} (h : Fr L u t L') : ∃ i, L[i]? = some (u, t) ∧ L.eraseIdx i = L' := by
  induction h with
  | here => exact ⟨0, rfl, rfl⟩
  | there _ ih => obtain ⟨i, h1, h3⟩ := ih; exact ⟨i + 1, by simpa using h1, by simp [h3]⟩
attribute [simp] T2 T3 T22 T38 T40 D22 D38 D45
section
variable {E : Env} {B : Bs} {s : Sl} {L : Lo} {k : Zt} {m : Md}
theorem zLd {sh d t a l v} {i : Nat} {ad : AV} {b ver j : Nat} {u : AV} {tr : Tr} {cs : List Tr} {L' : Lo} (ha : ev s a = ad) (hq : ad = .ptr b ver j) (hi : Fd i L b ver u tr tr L') (hc : tr.cs? = some cs) {q : Option AV} (hl : ldT T t cs j = q) (hl' : q = some v) (h : ZL E B (m.add s L) sh l ((d, v) :: s) L k) : ZL E B m sh (⟨some d, .load t a, none⟩ :: l) s L k :=
  zLoad ad ha hq i hi.idx.1 hi.idx.2.1 hc (hl.trans hl') h
theorem zSt {sh t a x l} {i : Nat} {ad : AV} {b ver j : Nat} {u v : AV} {tr tr' : Tr} {cs cs' : List Tr} {L' : Tr → Lo} (ha : ev s a = ad) (hq : ad = .ptr b ver j) (hx : ev s x = v) (hi : ∀ t', Fd i L b ver u tr t' (L' t')) (hc : tr.cs? = some cs) {q : Option (List Tr)} (hl : stT T t cs j v = q) (hl' : q = some cs') (ht : tr.wc cs' = tr') (h : ZL E B (m.add s L) sh l s (L' tr') k) : ZL E B m sh (⟨none, .store t a x, none⟩ :: l) s L k :=
  zStore ad ha hq i (hi tr').idx.1 (hi tr').idx.2.1 hc hx (hl.trans hl') (by rw [ht]; exact (hi tr').idx.2.2) h
theorem Num.here {i : Nat} {u : AV} {t : Tr} {L' : Lo} {l : List Int} (h : Fu i L u t u t L') (hn : numsT t = some l) : Num B L u l := .own i h.idx.1 hn
theorem zStI {sh t a x l} {i : Nat} {ad : AV} {u : AV} {j : Nat} {n : List Int} {f : Bool} {y : Int} {L' : Lo} (ha : ev s a = ad) (hq : ad = pAt u j) (ht : t = 3 ∨ t = 2) (hx : ev s x = .int .i64 y) (hi : Fu i L u (trB f n) u (trB f (n.set j y)) L') (h1 : j < n.length) (h : ZL E B (m.add s L) sh l s L' k) : ZL E B m sh (⟨none, .store t a x, none⟩ :: l) s L k :=
  zStoreI ad ha hq ht i hi.idx.1 h1 hx hi.idx.2 h
theorem zStS {sh t a x l} {i : Nat} {ad : AV} {u : AV} {j : Nat} {n : List Int} {y : Int} {L' : Lo} (ha : ev s a = ad) (hq : ad = pAt u j) (ht : t = 3 ∨ t = 2) (hx : ev s x = .int .i64 y) (hi : Fu i L u (trS n) u (trS (n.set j y)) L') (h1 : j < n.length) (h : ZL E B (m.add s L) sh l s L' k) : ZL E B m sh (⟨none, .store t a x, none⟩ :: l) s L k :=
  zStI (f := false) ha hq ht hx (by simpa only [trS_B] using hi) h1 h
theorem zStF {sh t a x l} {i : Nat} {ad : AV} {u : AV} {j : Nat} {n : List Int} {y : Int} {L' : Lo} (ha : ev s a = ad) (hq : ad = pAt u j) (ht : t = 3 ∨ t = 2) (hx : ev s x = .int .i64 y) (hi : Fu i L u (trF n) u (trF (n.set j y)) L') (h1 : j < n.length) (h : ZL E B (m.add s L) sh l s L' k) : ZL E B m sh (⟨none, .store t a x, none⟩ :: l) s L k :=
  zStI (f := true) ha hq ht hx (by simpa only [trF_B] using hi) h1 h
theorem zDrop {x e} (h : ZK E B k x s L) : ZK E B k x s (e :: L) := zGK (fun H hS => hS.erase 0) h
/-- What a list of numbers tells of itself. -/
theorem zNum' {sh l} {i : Nat} {u : AV} {t : Tr} {n : List Int} {L' : Lo} (hi : Fu i L u t u t L') (hn : numsT t = some n) (h : u.one = true → alenS u = some (.int .i64 n.length) → (∀ j, aidxS 1 u (.int .i64 j) = if 0 ≤ j ∧ j < n.length then some (pAt u j) else none) → ZL E B .no sh l s L k) : ZL E B .no sh l s L k :=
  zML fun H hS => have hh := hS.ints i hi.idx.1 hn; h (ints_one' hh) (alenS_ints hh) (aidxS_ints hh .i64)
theorem trS_G (n : List Int) : trS n = trG n.length 1 (trI n) := by
  unfold trS trG
  cases n <;> simp
theorem trG_one {H : Hp} {n es : Nat} {cs : List Tr} {u : AV} {bs : List (Nat × Nat)} (h : RX H (trG n es cs) u bs) : u.one = true := by
  unfold trG at h
  split at h
  · simp only [RX] at h; rw [h.1]; rfl
  · simp only [RX] at h
    obtain ⟨b, ver, vs, bs', rfl, _⟩ := h
    rfl
theorem SL.oneG {H : Hp} (h : SL B L H) {i n es : Nat} {cs : List Tr} {u : AV} (hi : L[i]? = some (u, trG n es cs)) : u.one = true := by
  obtain ⟨bs, h1, h2, h3⟩ := h.rx
  obtain ⟨v', b1, b', b2, g1, rfl, g3, _, g5⟩ := RXs.pick _ h1 i _ (getE hi)
  rw [getE hi] at g1
  cases g1
  exact trG_one g3
/-- What is new at the front is appended to an own list. -/
theorem zApG' {sh d x y ts l} {t e n mm es i : Nat} {ie : TI} {f : Bool} {u v : AV} {cs xt : List Tr} {L1 : Lo} {L' : AV → Lo} (hx : ev s x = u) (hy : ev s y = v) (hi : ∀ u', Fu i L1 u (trG n es cs) u' (trG (n + mm) es (cs ++ xt)) (L' u')) (hts : ts = #[t, t]) (hD : T.d t = .slice e) (hT : T e = some ie) (hes : ie.size = es) (hb0 : ie.bytes ≠ 0) (hcs : cs.length = n * es) (hxl : xt.length = mm * es) (hm : mm ≠ 0) (hl : (n + mm) * ie.bytes ≤ maxBytes) (hsh : sh = false)
    (h : ∀ u', u'.one = true → ZL E B .no sh l ((d, u') :: s) (L' u') k) : ZL E B .no sh (⟨some d, .call ⟨.builtin .append, #[x, y], ts⟩, none⟩ :: l) s ((v, .sl mm es f xt) :: L1) k :=
  zCore fun H hS => by
    subst hts
    subst hsh
    have e1 := (hi .bad).idx.1
    obtain ⟨u', H', g1, hS'⟩ := hS.app (i + 1) 0 (y := v) (u := u) (f := f) hD hT hes hb0 (by simpa using e1) (by simp) (by omega) hcs hxl hm hl
    have e2 := (hi u').idx.2
    simp only [List.set_cons_succ, List.eraseIdx_cons_zero, e2] at hS'
    have hone : u'.one = true := by
      refine hS'.oneG (i := i) (n := n + mm) (es := es) (cs := cs ++ xt) ?_
      rw [← e2]
      exact List.getElem?_set_self (List.getElem?_eq_some_iff.1 e1).1
    exact ⟨u', H', L' u', by rw [xdo_append, hx, hy]; exact g1, hS', h u' hone⟩
/-- A number is appended to an own list. -/
theorem zApI' {sh d x y ts l} {i : Nat} {u v : AV} {n : List Int} {a : Int} {f : Bool} {L1 : Lo} {L' : AV → Lo} (hx : ev s x = u) (hy : ev s y = v) (hts : ts = #[22, 22] ∨ ts = #[38, 38]) (hi : ∀ u', Fu i L1 u (trS n) u' (trS (n ++ [a])) (L' u')) (hn : n.length < 1099511627776) (hsh : sh = false) (h : ∀ u', u'.one = true → ZL E B .no sh l ((d, u') :: s) (L' u') k) : ZL E B .no sh (⟨some d, .call ⟨.builtin .append, #[x, y], ts⟩, none⟩ :: l) s ((v, .sl 1 1 f [.at (.int .i64 a)]) :: L1) k := by
  have e1 : trS (n ++ [a]) = trG (n.length + 1) 1 (trI n ++ [.at (.int .i64 a)]) := by rw [trS_G]; simp [trI]
  rw [trS_G, e1] at hi
  rcases hts with rfl | rfl
  · exact zApG' (t := 22) (e := 3) hx hy hi rfl D22 T3 rfl (by decide) (by simp [trI]) rfl (by decide) (by simp [maxBytes]; omega) hsh h
  · exact zApG' (t := 38) (e := 2) hx hy hi rfl D38 T2 rfl (by decide) (by simp [trI]) rfl (by decide) (by simp [maxBytes]; omega) hsh h
/-- A result is opened. -/
theorem zTup' {sh l} {v : AV} {ts : List Tr} (h : ∀ vs, vs.length = ts.length → v = .tup vs → ZL E B .no sh l s (vs.zip ts ++ L) k) : ZL E B .no sh l s ((v, .tup ts) :: L) k :=
  zML fun H hS => by
    obtain ⟨vs, e, hl, hS'⟩ := hS.openT (i := 0) rfl
    exact zGL (fun H hS => by
      obtain ⟨vs', e', hl', hS'⟩ := hS.openT (i := 0) rfl
      rw [e] at e'
      cases e'
      exact hS') (h vs hl e)
theorem zTup2' {sh l} {v : AV} {t1 t2 : Tr} (h : ∀ v1 v2, v = .tup [v1, v2] → ZL E B .no sh l s ((v1, t1) :: (v2, t2) :: L) k) : ZL E B .no sh l s ((v, .tup [t1, t2]) :: L) k :=
  zTup' fun vs hl e => by
    match vs, hl with
    | [v1, v2], _ => exact h v1 v2 e
theorem zTup3' {sh l} {v : AV} {t1 t2 t3 : Tr} (h : ∀ v1 v2 v3, v = .tup [v1, v2, v3] → ZL E B .no sh l s ((v1, t1) :: (v2, t2) :: (v3, t3) :: L) k) : ZL E B .no sh l s ((v, .tup [t1, t2, t3]) :: L) k :=
  zTup' fun vs hl e => by
    match vs, hl with
    | [v1, v2, v3], _ => exact h v1 v2 v3 e
theorem zAgg' {sh l} {v : AV} {ts : List Tr} (h : ∀ vs, vs.length = ts.length → v = .agg vs → ZL E B .no sh l s (vs.zip ts ++ L) k) : ZL E B .no sh l s ((v, .agg ts) :: L) k :=
  zML fun H hS => by
    obtain ⟨vs, e, hl, hS'⟩ := hS.openA (i := 0) rfl
    exact zGL (fun H hS => by
      obtain ⟨vs', e', hl', hS'⟩ := hS.openA (i := 0) rfl
      rw [e] at e'
      cases e'
      exact hS') (h vs hl e)
theorem zAgg2' {sh l} {v : AV} {t1 t2 : Tr} (h : ∀ v1 v2, v = .agg [v1, v2] → ZL E B .no sh l s ((v1, t1) :: (v2, t2) :: L) k) : ZL E B .no sh l s ((v, .agg [t1, t2]) :: L) k :=
  zAgg' fun vs hl e => by
    match vs, hl with
    | [v1, v2], _ => exact h v1 v2 e
theorem zAt' {sh l} {v a : AV} {L' : Lo} (hi : Fr L v (.at a) L') (h : v = a → ZL E B .no sh l s L' k) : ZL E B .no sh l s L k := by
  obtain ⟨i, e1, e2⟩ := hi.idx
  exact zML fun H hS => zGL (fun H hS => e2 ▸ hS.erase i) (h (hS.isLeaf e1))
theorem SL.nilG {H : Hp} (h : SL B L H) (es : Nat) : SL B ((.nilS, trG 0 es []) :: L) H := by
  have := h.leaf .nilS
  simpa [trG] using this
theorem SL.nilI {H : Hp} (h : SL B L H) : SL B ((.nilS, trS []) :: L) H := by
  have := h.leaf .nilS
  simpa [trS] using this
theorem Fz.of {H : Hp} {u : AV} {l : List Int} (h : ints H u = some l) : Fz ⟨H, []⟩ u l := ⟨fun H' hF => ints_ext (fun b k hk => hF.pre b k hk (by simp)) h⟩
theorem Fm.pre' {H H' : Hp} (h : Fm ⟨H, []⟩ H') : Pre H H' := fun b k hk => h.pre b k hk (by simp)
/-! ### what is handed back is put together -/
theorem RXs.perm {H : Hp} {L L' : Lo} (p : L.Perm L') : ∀ {bs : List (Nat × Nat)}, RXs H (L.map Prod.snd) (L.map Prod.fst) bs → ∃ bs', RXs H (L'.map Prod.snd) (L'.map Prod.fst) bs' ∧ bs.Perm bs' := by
  induction p with
  | nil => intro bs h; exact ⟨bs, h, .refl _⟩
  | cons x _ ih =>
    intro bs h
    simp only [List.map_cons, RXs] at h ⊢
    obtain ⟨v, vs, b1, b2, e, h1, h2, rfl⟩ := h
    cases e
    obtain ⟨b3, g1, g2⟩ := ih h2
    exact ⟨b1 ++ b3, ⟨_, _, b1, b3, rfl, h1, g1, rfl⟩, g2.append_left b1⟩
  | swap x y l =>
    intro bs h
    simp only [List.map_cons, RXs] at h ⊢
    obtain ⟨v, vs, b1, b2, e, h1, ⟨v', vs', b3, b4, e', h2, h3, rfl⟩, rfl⟩ := h
    cases e
    cases e'
    refine ⟨b3 ++ (b1 ++ b4), ⟨_, _, b3, _, rfl, h2, ⟨_, _, b1, b4, rfl, h1, h3, rfl⟩, rfl⟩, ?_⟩
    exact List.perm_iff_count.2 fun x => by simp only [List.count_append]; omega
  | trans _ _ ih1 ih2 =>
    intro bs h
    obtain ⟨b1, g1, g2⟩ := ih1 h
    obtain ⟨b2, g3, g4⟩ := ih2 g1
    exact ⟨b2, g3, g2.trans g4⟩
theorem SL.perm {H : Hp} {L' : Lo} (p : L.Perm L') (h : SL B L H) : SL B L' H := by
  obtain ⟨bs, h1, h2, h3⟩ := h.rx
  obtain ⟨bs', g1, g2⟩ := RXs.perm p h1
  exact ⟨h.w0, h.fm, bs', g1, g2.nodup_iff.1 h2, fun x hx => h3 x (g2.mem_iff.2 hx)⟩
theorem Fr.perm {L L' : Lo} {u : AV} {t : Tr} (h : Fr L u t L') : L.Perm ((u, t) :: L') := by
  induction h with
  | here => exact .refl _
  | there _ ih => exact (ih.cons _).trans (.swap _ _ _)
mutual
/-- A tree is put together out of what there is. -/
inductive Tk : Lo → AV → Tr → Lo → Prop
  | leaf {L : Lo} {a : AV} : Tk L a (.at a) L
  | pick {L L' : Lo} {u : AV} {t : Tr} : Fr L u t L' → Tk L u t L'
  | agg {L L' : Lo} {vs : List AV} {ts : List Tr} : Tks L vs ts L' → Tk L (.agg vs) (.agg ts) L'
  | tup {L L' : Lo} {vs : List AV} {ts : List Tr} : Tks L vs ts L' → Tk L (.tup vs) (.tup ts) L'
inductive Tks : Lo → List AV → List Tr → Lo → Prop
  | nil {L : Lo} : Tks L [] [] L
  | cons {L L1 L2 : Lo} {v : AV} {t : Tr} {vs : List AV} {ts : List Tr} : Tk L v t L1 → Tks L1 vs ts L2 → Tks L (v :: vs) (t :: ts) L2
end
theorem Tks.len : ∀ {ts : List Tr} {L : Lo} {vs : List AV} {L' : Lo}, Tks L vs ts L' → vs.length = ts.length
  | [], _, _, _, h => by cases h; rfl
  | _ :: _, _, _, _, h => by cases h with | cons _ h2 => simp [Tks.len h2]
mutual
theorem Tk.sl {H : Hp} : ∀ {t : Tr} {L : Lo} {v : AV} {L' : Lo}, Tk L v t L' → ∀ X : Lo, SL B (L ++ X) H → SL B ((v, t) :: (L' ++ X)) H
  | t, L, v, L', h, X, hS => by
    cases h with
    | leaf => exact hS.leaf _
    | pick h => exact hS.perm (h.perm.append_right X)
    | agg h =>
      rename_i vs ts
      have h1 := Tks.sl h X hS
      have h2 := h1.closeA
      have hl := Tks.len h
      rwa [List.map_fst_zip (by omega), List.map_snd_zip (by omega)] at h2
    | tup h =>
      rename_i vs ts
      have h1 := Tks.sl h X hS
      have h2 := h1.closeT
      have hl := Tks.len h
      rwa [List.map_fst_zip (by omega), List.map_snd_zip (by omega)] at h2
theorem Tks.sl {H : Hp} : ∀ {ts : List Tr} {L : Lo} {vs : List AV} {L' : Lo}, Tks L vs ts L' → ∀ X : Lo, SL B (L ++ X) H → SL B (vs.zip ts ++ (L' ++ X)) H
  | [], L, vs, L', h, X, hS => by cases h; simpa using hS
  | t :: ts, L, vs, L', h, X, hS => by
    cases h with
    | cons h1 h2 =>
      rename_i L1 v vs
      have a1 := Tk.sl h1 X hS
      have a2 := Tks.sl h2 (X ++ [(v, t)]) (a1.perm (by rw [← List.append_assoc]; exact (List.perm_append_singleton _ _).symm))
      refine a2.perm ?_
      simp only [List.zip_cons_cons, List.cons_append, ← List.append_assoc]
      exact List.perm_append_singleton _ _
end
/-- The end of a walk: a tree is handed back. -/
theorem zFin {H0 : Hp} {x : Ex} {rs : List ResultVar} {vs : List AV} {t : Tr} {r : AV} {Hr : Hp} (hx : x = .norm ∨ x = .ret) (e : ∀ H, SL ⟨H0, []⟩ L H → xres T s H rs = some vs) (hg : ∃ L', Tk L (xret vs) t L') (hok : okT H0.c t = true) (hr : mk t H0 = (r, Hr)) :
    ZK E ⟨H0, []⟩ (.fin fun x s' H2 => (x = .norm ∨ x = .ret) ∧ ∃ vs js, xres T s' H2 rs = some vs ∧ Can H0 H2 Hr (xret vs) r js) x s L :=
  have ⟨L', hg⟩ := hg; zEnd hx e (fun H hS => ⟨L' ++ [], hg.sl [] (by simpa using hS)⟩) hok hr
theorem xres2c {H : Hp} {a t e b ver j : Nat} {v x : AV} (h1 : get s a = .ptr b ver j) (h3 : get s e = x) (h2 : aload T t (.ptr b ver j) H = some v) : xres T s H [.cell a t, .tmp e] = some [v, x] := by simp [h1, h2, h3]
theorem SL.ld {H : Hp} (h : SL B L H) {i b ver j t : Nat} {u v : AV} {tr : Tr} {cs : List Tr} {L' : Lo} {q : Option AV} (hi : Fd i L b ver u tr tr L') (hc : tr.cs? = some cs) (hl : ldT T t cs j = q) (hq : q = some v) : aload T t (.ptr b ver j) H = some v := h.load i hi.idx.1 hc hi.idx.2.1 (hl.trans hq)
/-! ### the same rules; what they ask for is found -/
theorem yYes {sh d o l j want} (h : ZL E B m sh (⟨some d, o, none⟩ :: l) s L k) (hg : get s j = .bool want := by simp [*]; first | done | fail) : ZL E B m sh (⟨some d, o, some (j, want)⟩ :: l) s L k := zYes hg h
theorem yNo {sh d o l j want} (h : ZL E B (m.add s L) sh l ((d, .tup []) :: s) L k) (hg : get s j = .bool (!want) := by simp [*]; first | done | fail) : ZL E B m sh (⟨some d, o, some (j, want)⟩ :: l) s L k := zNo hg h
theorem yNoU {sh d o l j want cs} (h : ZL E B (m.add s L) sh l ((d, .tup []) :: s) L k) (hg : get s j = .tup cs := by simp; exact rfl) : ZL E B m sh (⟨some d, o, some (j, want)⟩ :: l) s L k := zNoU hg h
theorem yLd {sh d t a l v} {i : Nat} {ad : AV} {b ver j : Nat} {u : AV} {tr : Tr} {cs : List Tr} {L' : Lo} {q : Option AV} (h : ZL E B (m.add s L) sh l ((d, v) :: s) L k) (ha : ev s a = ad := by simp; exact rfl) (hq : ad = .ptr b ver j := by rfl) (hi : Fd i L b ver u tr tr L' := by (repeat (first | exact Fd.here rfl | apply Fd.there)); first | done | fail) (hc : tr.cs? = some cs := by rfl) (hl : ldT T t cs j = q := by simp [ldT, lvs, *]; exact rfl) (hl' : q = some v := by rfl) : ZL E B m sh (⟨some d, .load t a, none⟩ :: l) s L k := zLd ha hq hi hc hl hl' h
theorem yLdI {sh d t a l} {ad : AV} {u : AV} {j : Int} {n : List Int} (h : ZL E B (m.add s L) sh l ((d, .int .i64 (nth n j)) :: s) L k) (ha : ev s a = ad := by simp; exact rfl) (hq : ad = pAt u j := by rfl) (ht : t = 3 ∨ t = 2 := by simp; first | done | fail) (hn : Num B L u n := by first | exact Num.fz (by assumption) | exact Num.fz (Hide.out (by assumption)) | (apply Num.here (t := trS _); (· ((repeat (first | exact Fu.here | apply Fu.there)); done)); (· exact numsT_S (by first | omega | (simp; omega)))) | (apply Num.here (t := trF _); (· ((repeat (first | exact Fu.here | apply Fu.there)); done)); (· exact numsT_F (by first | omega | (simp; omega)))) | (apply Num.here (t := trC _); (· ((repeat (first | exact Fu.here | apply Fu.there)); done)); (· exact numsT_C (by first | omega | (simp; omega)))) | (apply Num.here (t := trB true _); (· ((repeat (first | exact Fu.here | apply Fu.there)); done)); (· exact numsT_F (by first | omega | (simp; omega)))) | (apply Num.here (t := trB false _); (· ((repeat (first | exact Fu.here | apply Fu.there)); done)); (· exact numsT_S (by first | omega | (simp; omega))))) (h0 : 0 ≤ j := by first | omega | (simp; omega)) (h1 : j < n.length := by first | omega | (simp; omega)) : ZL E B m sh (⟨some d, .load t a, none⟩ :: l) s L k := zLoadI ad ha hq ht hn h0 h1 h
theorem yStS {sh t a x l} {i : Nat} {ad : AV} {u : AV} {j : Nat} {n : List Int} {y : Int} {L' : Lo} (h : ZL E B (m.add s L) sh l s L' k) (ha : ev s a = ad := by simp; exact rfl) (hq : ad = pAt u j := by rfl) (ht : t = 3 ∨ t = 2 := by simp; first | done | fail) (hx : ev s x = .int .i64 y := by simp; exact rfl) (hi : Fu i L u (trS n) u (trS (n.set j y)) L' := by (repeat (first | exact Fu.here | apply Fu.there)); first | done | fail) (h1 : j < n.length := by first | omega | (simp; omega)) : ZL E B m sh (⟨none, .store t a x, none⟩ :: l) s L k := zStS ha hq ht hx hi h1 h
theorem yStF {sh t a x l} {i : Nat} {ad : AV} {u : AV} {j : Nat} {n : List Int} {y : Int} {L' : Lo} (h : ZL E B (m.add s L) sh l s L' k) (ha : ev s a = ad := by simp; exact rfl) (hq : ad = pAt u j := by rfl) (ht : t = 3 ∨ t = 2 := by simp; first | done | fail) (hx : ev s x = .int .i64 y := by simp; exact rfl) (hi : Fu i L u (trF n) u (trF (n.set j y)) L' := by (repeat (first | exact Fu.here | apply Fu.there)); first | done | fail) (h1 : j < n.length := by first | omega | (simp; omega)) : ZL E B m sh (⟨none, .store t a x, none⟩ :: l) s L k := zStF ha hq ht hx hi h1 h
theorem ySt {sh t a x l} {i : Nat} {ad : AV} {b ver j : Nat} {u v : AV} {tr tr' : Tr} {cs cs' : List Tr} {L' : Tr → Lo} {q : Option (List Tr)} (h : ZL E B (m.add s L) sh l s (L' tr') k) (ha : ev s a = ad := by simp; exact rfl) (hq : ad = .ptr b ver j := by rfl) (hx : ev s x = v := by simp; exact rfl) (hi : ∀ t', Fd i L b ver u tr t' (L' t') := by intro _; (repeat (first | exact Fd.here rfl | apply Fd.there)); first | done | fail) (hc : tr.cs? = some cs := by rfl) (hl : stT T t cs j v = q := by simp [stT, setT, AV.cells, *]; exact rfl) (hl' : q = some cs' := by rfl) (ht : tr.wc cs' = tr' := by dsimp only [Tr.wc]; try exact rfl; first | done | fail) : ZL E B m sh (⟨none, .store t a x, none⟩ :: l) s L k := zSt ha hq hx hi hc hl hl' ht h
theorem yBS {sh d t n ps l} {e : Nat} {ie : TI} {cells : List AV} {cs : List Tr} {es : Nat} (h : ∀ b ver, ZL E B (m.add s L) sh l ((d, .sl b ver 0 n es true) :: s) ((.sl b ver 0 n es true, .sl n es true cs) :: L) k) (hD : T.d t = .slice e := by simp; exact rfl) (hT : T e = some ie := by simp; exact rfl) (he : ie.size = es := by rfl) (hs : n * ie.size ≤ 16777216 := by simp; first | done | fail) (hc : afill (fun j => some (j * ie.size, ie.size)) (rep n ie.zero) (ps.toList.map fun p => (p.1, ev s p.2)) = some cells := by simp [afill, rep, AV.cells, setAll, *]; first | done | exact rfl | exact ⟨rfl, rfl⟩ | fail) (hm : cells.map .at = cs := by dsimp only [List.map]; try exact rfl; first | done | fail) : ZL E B m sh (⟨some d, .buildSlice t n ps, none⟩ :: l) s L k := by
  subst hm
  subst he
  exact zBS hD hT hs hc h
theorem yAlloc {sh d e l} {ie : TI} {cs : List Tr} (h : ∀ b ver, ZL E B (m.add s L) sh l ((d, .ptr b ver 0) :: s) ((.ptr b ver 0, .bx cs) :: L) k) (hT : T e = some ie := by simp; exact rfl) (hm : ie.zero.map .at = cs := by dsimp only [List.map]; try exact rfl; first | done | fail) : ZL E B m sh (⟨some d, .alloc e, none⟩ :: l) s L k := by
  subst hm
  exact zAlloc hT h
theorem yBox {sh d e x l} {v : AV} {cs : List Tr} (h : ∀ b ver, ZL E B (m.add s L) sh l ((d, .ptr b ver 0) :: s) ((.ptr b ver 0, .bx cs) :: L) k) (hx : ev s x = v := by simp; exact rfl) (h1 : v.cells.all AV.one = true := by simp [AV.cells, *]; first | done | fail) (hm : v.cells.map .at = cs := by dsimp only [AV.cells, List.map]; try exact rfl; first | done | fail) : ZL E B m sh (⟨some d, .box e x, none⟩ :: l) s L k := by
  subst hm
  exact zBox hx h1 h
theorem yOp {sh d o l v} {q : Hp → Option (AV × Hp)} (h : ZL E B (m.add s L) sh l ((d, v) :: s) L k) (e : ∀ H, SL B L H → Fm B H → xdo E T sh o s H = q H := by intro _ _ _; simp [*]; try exact rfl; first | done | fail) (eq : ∀ H, q H = some (v, H) := by intro _; exact rfl) : ZL E B m sh (⟨some d, o, none⟩ :: l) s L k := zOp e eq h
theorem ySplit {sh d o l j want p q} {_ : Decidable p} (h1 : p → ZL E B m sh (⟨d, o, some (j, want)⟩ :: l) s L k) (h2 : ¬p → ZL E B m sh (⟨d, o, some (j, want)⟩ :: l) s L k) (hg : get s j = q := by simp; exact rfl) (eq : q = .bool (decide p) := by with_reducible exact rfl) : ZL E B m sh (⟨d, o, some (j, want)⟩ :: l) s L k := zSplit hg eq h1 h2
theorem ySplitQ {sh d o l j want t q} (h1 : t = true → ZL E B m sh (⟨d, o, some (j, want)⟩ :: l) s L k) (h2 : t = false → ZL E B m sh (⟨d, o, some (j, want)⟩ :: l) s L k) (hg : get s j = q := by simp; exact rfl) (eq : q = .bool t := by exact rfl) : ZL E B m sh (⟨d, o, some (j, want)⟩ :: l) s L k := zSplitQ hg eq h1 h2
theorem yYes' {sh d o l j want} (h : ZL E B .no sh (⟨some d, o, none⟩ :: l) s L k) (hg : get s j = .bool want := by simp [*]; first | done | fail) : ZL E B .no sh (⟨some d, o, some (j, want)⟩ :: l) s L k := zYes hg h
theorem yNo' {sh d o l j want} (h : ZL E B .no sh l ((d, .tup []) :: s) L k) (hg : get s j = .bool (!want) := by simp [*]; first | done | fail) : ZL E B .no sh (⟨some d, o, some (j, want)⟩ :: l) s L k := zNo hg h
theorem yNoU' {sh d o l j want cs} (h : ZL E B .no sh l ((d, .tup []) :: s) L k) (hg : get s j = .tup cs := by simp; exact rfl) : ZL E B .no sh (⟨some d, o, some (j, want)⟩ :: l) s L k := zNoU hg h
theorem yLd' {sh d t a l v} {i : Nat} {ad : AV} {b ver j : Nat} {u : AV} {tr : Tr} {cs : List Tr} {L' : Lo} {q : Option AV} (h : ZL E B .no sh l ((d, v) :: s) L k) (ha : ev s a = ad := by simp; exact rfl) (hq : ad = .ptr b ver j := by rfl) (hi : Fd i L b ver u tr tr L' := by (repeat (first | exact Fd.here rfl | apply Fd.there)); first | done | fail) (hc : tr.cs? = some cs := by rfl) (hl : ldT T t cs j = q := by simp [ldT, lvs, *]; exact rfl) (hl' : q = some v := by rfl) : ZL E B .no sh (⟨some d, .load t a, none⟩ :: l) s L k := zLd ha hq hi hc hl hl' h
theorem yLdI' {sh d t a l} {ad : AV} {u : AV} {j : Int} {n : List Int} (h : ZL E B .no sh l ((d, .int .i64 (nth n j)) :: s) L k) (ha : ev s a = ad := by simp; exact rfl) (hq : ad = pAt u j := by rfl) (ht : t = 3 ∨ t = 2 := by simp; first | done | fail) (hn : Num B L u n := by first | exact Num.fz (by assumption) | exact Num.fz (Hide.out (by assumption)) | (apply Num.here (t := trS _); (· ((repeat (first | exact Fu.here | apply Fu.there)); done)); (· exact numsT_S (by first | omega | (simp; omega)))) | (apply Num.here (t := trF _); (· ((repeat (first | exact Fu.here | apply Fu.there)); done)); (· exact numsT_F (by first | omega | (simp; omega)))) | (apply Num.here (t := trC _); (· ((repeat (first | exact Fu.here | apply Fu.there)); done)); (· exact numsT_C (by first | omega | (simp; omega)))) | (apply Num.here (t := trB true _); (· ((repeat (first | exact Fu.here | apply Fu.there)); done)); (· exact numsT_F (by first | omega | (simp; omega)))) | (apply Num.here (t := trB false _); (· ((repeat (first | exact Fu.here | apply Fu.there)); done)); (· exact numsT_S (by first | omega | (simp; omega))))) (h0 : 0 ≤ j := by first | omega | (simp; omega)) (h1 : j < n.length := by first | omega | (simp; omega)) : ZL E B .no sh (⟨some d, .load t a, none⟩ :: l) s L k := zLoadI ad ha hq ht hn h0 h1 h
theorem yStS' {sh t a x l} {i : Nat} {ad : AV} {u : AV} {j : Nat} {n : List Int} {y : Int} {L' : Lo} (h : ZL E B .no sh l s L' k) (ha : ev s a = ad := by simp; exact rfl) (hq : ad = pAt u j := by rfl) (ht : t = 3 ∨ t = 2 := by simp; first | done | fail) (hx : ev s x = .int .i64 y := by simp; exact rfl) (hi : Fu i L u (trS n) u (trS (n.set j y)) L' := by (repeat (first | exact Fu.here | apply Fu.there)); first | done | fail) (h1 : j < n.length := by first | omega | (simp; omega)) : ZL E B .no sh (⟨none, .store t a x, none⟩ :: l) s L k := zStS ha hq ht hx hi h1 h
theorem yStF' {sh t a x l} {i : Nat} {ad : AV} {u : AV} {j : Nat} {n : List Int} {y : Int} {L' : Lo} (h : ZL E B .no sh l s L' k) (ha : ev s a = ad := by simp; exact rfl) (hq : ad = pAt u j := by rfl) (ht : t = 3 ∨ t = 2 := by simp; first | done | fail) (hx : ev s x = .int .i64 y := by simp; exact rfl) (hi : Fu i L u (trF n) u (trF (n.set j y)) L' := by (repeat (first | exact Fu.here | apply Fu.there)); first | done | fail) (h1 : j < n.length := by first | omega | (simp; omega)) : ZL E B .no sh (⟨none, .store t a x, none⟩ :: l) s L k := zStF ha hq ht hx hi h1 h
theorem ySt' {sh t a x l} {i : Nat} {ad : AV} {b ver j : Nat} {u v : AV} {tr tr' : Tr} {cs cs' : List Tr} {L' : Tr → Lo} {q : Option (List Tr)} (h : ZL E B .no sh l s (L' tr') k) (ha : ev s a = ad := by simp; exact rfl) (hq : ad = .ptr b ver j := by rfl) (hx : ev s x = v := by simp; exact rfl) (hi : ∀ t', Fd i L b ver u tr t' (L' t') := by intro _; (repeat (first | exact Fd.here rfl | apply Fd.there)); first | done | fail) (hc : tr.cs? = some cs := by rfl) (hl : stT T t cs j v = q := by simp [stT, setT, AV.cells, *]; exact rfl) (hl' : q = some cs' := by rfl) (ht : tr.wc cs' = tr' := by dsimp only [Tr.wc]; try exact rfl; first | done | fail) : ZL E B .no sh (⟨none, .store t a x, none⟩ :: l) s L k := zSt ha hq hx hi hc hl hl' ht h
theorem yBS' {sh d t n ps l} {e : Nat} {ie : TI} {cells : List AV} {cs : List Tr} {es : Nat} (h : ∀ b ver, ZL E B .no sh l ((d, .sl b ver 0 n es true) :: s) ((.sl b ver 0 n es true, .sl n es true cs) :: L) k) (hD : T.d t = .slice e := by simp; exact rfl) (hT : T e = some ie := by simp; exact rfl) (he : ie.size = es := by rfl) (hs : n * ie.size ≤ 16777216 := by simp; first | done | fail) (hc : afill (fun j => some (j * ie.size, ie.size)) (rep n ie.zero) (ps.toList.map fun p => (p.1, ev s p.2)) = some cells := by simp [afill, rep, AV.cells, setAll, *]; first | done | exact rfl | exact ⟨rfl, rfl⟩ | fail) (hm : cells.map .at = cs := by dsimp only [List.map]; try exact rfl; first | done | fail) : ZL E B .no sh (⟨some d, .buildSlice t n ps, none⟩ :: l) s L k := by
  subst hm
  subst he
  exact zBS hD hT hs hc h
theorem yAlloc' {sh d e l} {ie : TI} {cs : List Tr} (h : ∀ b ver, ZL E B .no sh l ((d, .ptr b ver 0) :: s) ((.ptr b ver 0, .bx cs) :: L) k) (hT : T e = some ie := by simp; exact rfl) (hm : ie.zero.map .at = cs := by dsimp only [List.map]; try exact rfl; first | done | fail) : ZL E B .no sh (⟨some d, .alloc e, none⟩ :: l) s L k := by
  subst hm
  exact zAlloc hT h
theorem yBox' {sh d e x l} {v : AV} {cs : List Tr} (h : ∀ b ver, ZL E B .no sh l ((d, .ptr b ver 0) :: s) ((.ptr b ver 0, .bx cs) :: L) k) (hx : ev s x = v := by simp; exact rfl) (h1 : v.cells.all AV.one = true := by simp [AV.cells, *]; first | done | fail) (hm : v.cells.map .at = cs := by dsimp only [AV.cells, List.map]; try exact rfl; first | done | fail) : ZL E B .no sh (⟨some d, .box e x, none⟩ :: l) s L k := by
  subst hm
  exact zBox hx h1 h
theorem yOp' {sh d o l v} {q : Hp → Option (AV × Hp)} (h : ZL E B .no sh l ((d, v) :: s) L k) (e : ∀ H, SL B L H → Fm B H → xdo E T sh o s H = q H := by intro _ _ _; simp [*]; try exact rfl; first | done | fail) (eq : ∀ H, q H = some (v, H) := by intro _; exact rfl) : ZL E B .no sh (⟨some d, o, none⟩ :: l) s L k := zOp e eq h
theorem ySplit' {sh d o l j want p q} {_ : Decidable p} (h1 : p → ZL E B .no sh (⟨d, o, some (j, want)⟩ :: l) s L k) (h2 : ¬p → ZL E B .no sh (⟨d, o, some (j, want)⟩ :: l) s L k) (hg : get s j = q := by simp; exact rfl) (eq : q = .bool (decide p) := by with_reducible exact rfl) : ZL E B .no sh (⟨d, o, some (j, want)⟩ :: l) s L k := zSplit hg eq h1 h2
theorem ySplitQ' {sh d o l j want t q} (h1 : t = true → ZL E B .no sh (⟨d, o, some (j, want)⟩ :: l) s L k) (h2 : t = false → ZL E B .no sh (⟨d, o, some (j, want)⟩ :: l) s L k) (hg : get s j = q := by simp; exact rfl) (eq : q = .bool t := by exact rfl) : ZL E B .no sh (⟨d, o, some (j, want)⟩ :: l) s L k := zSplitQ hg eq h1 h2
theorem yIfT {c a b} (h1 : Z E B a s L k) (he : ev s c = .bool true := by simp [*]; first | done | fail) : Z E B (.cond c a b) s L k := zIfT he h1
theorem yIfF {c a b} (h1 : Z E B b s L k) (he : ev s c = .bool false := by simp [*]; first | done | fail) : Z E B (.cond c a b) s L k := zIfF he h1
theorem yIf {c a b p q} {_ : Decidable p} (h1 : p → Z E B a s L k) (h2 : ¬p → Z E B b s L k) (he : ev s c = q := by simp; exact rfl) (eq : q = .bool (decide p) := by with_reducible exact rfl) : Z E B (.cond c a b) s L k := zIf he eq h1 h2
theorem yIfQ {c a b t q} (h1 : t = true → Z E B a s L k) (h2 : t = false → Z E B b s L k) (he : ev s c = q := by simp; exact rfl) (eq : q = .bool t := by exact rfl) : Z E B (.cond c a b) s L k := zIfQ he eq h1 h2
theorem yBlkX {id j : Nat} (h : ZK E B k (.exit j) s L) (hj : (j == id) = false := by rfl) : ZK E B (.blk id k) (.exit j) s L := zBlkX hj h
end
/- A walk begins anew over what it has made; lists of tensors copied. -/
section
variable {E : Env} {s : Sl} {L : Lo} {k : Zt} {m : Md}
/-- A list of numbers is copied behind an empty one. -/
theorem zClone {B : Bs} {sh d x y ts l} {u v : AV} {n : List Int} {L1 : Lo} (hx : ev s x = v) (hy : ev s y = u) (hn : Num B ((v, .sl 0 1 true []) :: L1) u n) (hts : ts = #[22, 22] ∨ ts = #[38, 38]) (hl : n.length < 1099511627776) (h : ∀ u', u'.one = true → ZL E B (m.add s ((v, .sl 0 1 true []) :: L1)) sh l ((d, u') :: s) ((u', trC n) :: L1) k) : ZL E B m sh (⟨some d, .call ⟨.builtin .append, #[x, y], ts⟩, none⟩ :: l) s ((v, .sl 0 1 true []) :: L1) k :=
  zCore fun H hS => by
    have hc := ints_cells (hn.out H hS)
    obtain ⟨bs, h1, h2, h3⟩ := hS.rx
    simp only [List.map_cons, RXs, RX] at h1
    obtain ⟨_, _, b1, b2, e, ⟨b, ver, vs, b3, rfl, hk, ⟨rfl, rfl⟩, rfl⟩, hr, rfl⟩ := h1
    cases e
    have hS1 := hS.erase 0
    simp only [List.eraseIdx_cons_zero] at hS1
    have key : ∀ t, (t = 22 ∨ t = 38) → ∃ u' H', aapp T sh t t (.sl b ver 0 0 1 true) u H = some (u', H') ∧ u'.one = true ∧ SL B ((u', trC n) :: L1) H' := by
      intro t ht
      have hap : aapp T sh t t (.sl b ver 0 0 1 true) u H = aapp T sh 22 22 (.sl b ver 0 0 1 true) u H := by
        rcases ht with rfl | rfl
        · rfl
        · exact aapp38 sh _ _ H
      rw [hap]
      by_cases h0 : n = []
      · subst h0
        refine ⟨.sl b ver 0 0 1 true, H, ?_, rfl, ?_⟩
        · simp only [aapp, D22, T3, Option.bind_some, aappend, hc]
          simp
        · simpa [trC, trF, trI] using hS
      · have hne : n.length ≠ 0 := by simpa using h0
        refine ⟨.sl H.bs.length H.c 0 n.length 1 false, H.new (n.map (.int .i64)), ?_, rfl, ?_⟩
        · simp only [aapp, D22, T3, Option.bind_some, aappend, hc, hk]
          simp [hne, maxBytes, h0]
          omega
        · have := hS1.new (trS n) (n.map (.int .i64)) (by simp [trS, h0, Tr.cs?, trI])
          simpa [trC, h0, trS, Tr.hd] using this
    rcases hts with rfl | rfl
    · obtain ⟨u', H', e1, e2, e3⟩ := key 22 (.inl rfl)
      exact ⟨u', H', _, by rw [xdo_append, hx, hy]; exact e1, e3, h u' e2⟩
    · obtain ⟨u', H', e1, e2, e3⟩ := key 38 (.inr rfl)
      exact ⟨u', H', _, by rw [xdo_append, hx, hy]; exact e1, e3, h u' e2⟩
/-- An operation that makes one new block. -/
theorem zNew' {B : Bs} {sh d o l} (t : Tr) (cells : List AV) (hc : t.cs? = some (cells.map .at)) (e : ∀ H, SL B L H → Fm B H → xdo E T sh o s H = some (t.hd H.bs.length H.c, H.new cells)) (h : ∀ b ver, ZL E B .no sh l ((d, t.hd b ver) :: s) ((t.hd b ver, t) :: L) k) : ZL E B .no sh (⟨some d, o, none⟩ :: l) s L k :=
  zCore fun H hS => ⟨_, _, _, e H hS hS.fm, hS.new t cells hc, h _ _⟩
theorem slCells_ext {H H' : Hp} (hp : Pre H H') {v : AV} {p : Nat × List AV} (h : slCells H v = some p) : slCells H' v = some p := by
  unfold slCells at h ⊢
  split at h
  · exact h
  · exact h
  · split at h
    · rename_i k hk
      rw [hp.at hk]
      exact h
    · cases h
  · cases h
end
/- Functions in short form. -/
/-! parquetry/split.Join (4 parameters; calls 21 parquetry/tile.Size, 22 parquetry/tile.From, 63 parquetry/spec.Right, 66 parquetry/spec.First, 88 parquetry/mesh.Devices, 89 parquetry/mesh.Right, 90 parquetry/shape.Right, 91 parquetry/tensor.Right, 92 parquetry/shape.Same, 93 parquetry/tensor.Same, 94 parquetry/tensor.Fill, 95 parquetry/shape.Place, 96 parquetry/shape.Index) -/
def A38 : Ann := { recs := fun i => if i = 8 then [(4, 11), (5, 11)] else [], live := fun i => if i = 6 then [0, 1, 2, 3, 8, 46, 47, 48] else if i = 12 then [0, 1, 2, 3, 8, 69, 70, 71] else if i = 19 then [1, 2, 3, 8, 14, 15, 93, 94, 95] else if i = 23 then [1, 2, 3, 8, 14, 15, 17, 18, 93, 94, 95, 106, 107, 108] else if i = 27 then [1, 2, 3, 8, 14, 15, 17, 18, 20, 21, 93, 94, 95, 106, 107, 108, 118, 119] else [], drop := fun i => false }
noncomputable def c38 : Cc :=
  (.seq (.reg false [⟨some 8, (Op.alloc 40), none⟩,
    ⟨some 9, (Op.assign (Operand.const (Value.int IntKind.i64 0))), none⟩])
  (.seq (.seq (.reg false [⟨some 23, (Op.move (Operand.tmp 2)), none⟩,
    ⟨some 24, (Op.call { callee := (Callee.value (Operand.func 89)), args := #[(Operand.tmp 23)], argTypes := #[22] }), none⟩,
    ⟨some 25, (Op.unOp UnOp.not 4 (Operand.tmp 24)), none⟩,
    ⟨some 26, (Op.move (Operand.tmp 25)), none⟩,
    ⟨some 27, (Op.move (Operand.tmp 1)), some (26, false)⟩,
    ⟨some 28, (Op.call { callee := (Callee.value (Operand.func 90)), args := #[(Operand.tmp 27)], argTypes := #[22] }), some (26, false)⟩,
    ⟨some 29, (Op.unOp UnOp.not 4 (Operand.tmp 28)), some (26, false)⟩,
    ⟨some 30, (Op.pick (Operand.tmp 26) (Operand.const (Value.bool true)) (Operand.tmp 29)), none⟩,
    ⟨some 31, (Op.move (Operand.tmp 30)), none⟩,
    ⟨some 32, (Op.move (Operand.tmp 2)), some (31, false)⟩,
    ⟨some 33, (Op.move (Operand.tmp 3)), some (31, false)⟩,
    ⟨some 34, (Op.move (Operand.tmp 1)), some (31, false)⟩,
    ⟨some 35, (Op.call { callee := (Callee.builtin Builtin.len), args := #[(Operand.tmp 34)], argTypes := #[22] }), some (31, false)⟩,
    ⟨some 36, (Op.call { callee := (Callee.value (Operand.func 63)), args := #[(Operand.tmp 32), (Operand.tmp 33), (Operand.tmp 35)], argTypes := #[22, 22, 3] }), some (31, false)⟩,
    ⟨some 37, (Op.unOp UnOp.not 4 (Operand.tmp 36)), some (31, false)⟩,
    ⟨some 38, (Op.pick (Operand.tmp 31) (Operand.const (Value.bool true)) (Operand.tmp 37)), none⟩])
  (.cond (Operand.tmp 38)
    (.seq (.reg false [⟨some 39, (Op.build 40 #[]), none⟩,
      ⟨none, (Op.store 40 (Operand.tmp 8) (Operand.tmp 39)), none⟩,
      ⟨some 9, (Op.assign (Operand.const (Value.int IntKind.i64 1))), none⟩])
    .ret)
    .skip))
  (.seq (.seq (.reg false [⟨some 40, (Op.move (Operand.tmp 0)), none⟩,
    ⟨some 41, (Op.call { callee := (Callee.builtin Builtin.len), args := #[(Operand.tmp 40)], argTypes := #[45] }), none⟩,
    ⟨some 42, (Op.move (Operand.tmp 2)), none⟩,
    ⟨some 43, (Op.call { callee := (Callee.value (Operand.func 88)), args := #[(Operand.tmp 42)], argTypes := #[22] }), none⟩,
    ⟨some 44, (Op.binOp BinOp.neq 3 (Operand.tmp 41) (Operand.tmp 43) 3), none⟩])
  (.cond (Operand.tmp 44)
    (.seq (.reg false [⟨some 45, (Op.build 40 #[]), none⟩,
      ⟨none, (Op.store 40 (Operand.tmp 8) (Operand.tmp 45)), none⟩,
      ⟨some 9, (Op.assign (Operand.const (Value.int IntKind.i64 13))), none⟩])
    .ret)
    .skip))
  (.seq (.seq (.reg false [⟨some 46, (Op.move (Operand.tmp 0)), none⟩,
    ⟨some 47, (Op.call { callee := (Callee.builtin Builtin.len), args := #[(Operand.tmp 46)], argTypes := #[45] }), none⟩,
    ⟨some 48, (Op.move (Operand.const (Value.int IntKind.i64 0))), none⟩])
  (.block 0 (.loop [0, 1, 2, 3, 8, 46, 47, 48] false
    (.seq (.reg false [⟨some 49, (Op.binOp BinOp.lss 3 (Operand.tmp 48) (Operand.tmp 47) 3), none⟩])
    (.seq (.cond (Operand.tmp 49)
      .skip
      (.exit 0))
    (.seq (.block 1 (.seq (.reg false [⟨some 50, (Op.move (Operand.tmp 48)), none⟩,
      ⟨some 51, (Op.indexAddr 45 (Operand.tmp 46) (Operand.tmp 48)), none⟩,
      ⟨some 52, (Op.load 40 (Operand.tmp 51)), none⟩,
      ⟨some 11, (Op.alloc 40), none⟩,
      ⟨some 10, (Op.assign (Operand.tmp 50)), none⟩,
      ⟨none, (Op.store 40 (Operand.tmp 11) (Operand.tmp 52)), none⟩])
    (.seq (.drw false [⟨some 53, (Op.load 40 (Operand.tmp 11)), none⟩,
      ⟨some 54, (Op.call { callee := (Callee.value (Operand.func 91)), args := #[(Operand.tmp 53)], argTypes := #[40] }), none⟩,
      ⟨some 55, (Op.unOp UnOp.not 4 (Operand.tmp 54)), none⟩,
      ⟨some 56, (Op.move (Operand.tmp 55)), none⟩,
      ⟨some 57, (Op.fieldAddr 40 (Operand.tmp 11) 0), some (56, false)⟩,
      ⟨some 58, (Op.load 22 (Operand.tmp 57)), some (56, false)⟩,
      ⟨some 59, (Op.move (Operand.tmp 1)), some (56, false)⟩,
      ⟨some 60, (Op.move (Operand.tmp 2)), some (56, false)⟩,
      ⟨some 61, (Op.move (Operand.tmp 3)), some (56, false)⟩,
      ⟨some 62, (Op.move (Operand.tmp 10)), some (56, false)⟩,
      ⟨some 63, (Op.call { callee := (Callee.value (Operand.func 21)), args := #[(Operand.tmp 59), (Operand.tmp 60), (Operand.tmp 61), (Operand.tmp 62)], argTypes := #[22, 22, 22, 3] }), some (56, false)⟩,
      ⟨some 64, (Op.call { callee := (Callee.value (Operand.func 92)), args := #[(Operand.tmp 58), (Operand.tmp 63)], argTypes := #[22, 22] }), some (56, false)⟩,
      ⟨some 65, (Op.unOp UnOp.not 4 (Operand.tmp 64)), some (56, false)⟩,
      ⟨some 66, (Op.pick (Operand.tmp 56) (Operand.const (Value.bool true)) (Operand.tmp 65)), none⟩] [(5, 11)])
    (.cond (Operand.tmp 66)
      (.seq (.reg false [⟨some 67, (Op.build 40 #[]), none⟩,
        ⟨none, (Op.store 40 (Operand.tmp 8) (Operand.tmp 67)), none⟩,
        ⟨some 9, (Op.assign (Operand.const (Value.int IntKind.i64 13))), none⟩])
      .ret)
      .skip))))
    (.reg false [⟨some 68, (Op.binOp BinOp.add 3 (Operand.tmp 48) (Operand.const (Value.int IntKind.i64 1)) 3), none⟩,
      ⟨some 48, (Op.move (Operand.tmp 68)), none⟩])))))))
  (.seq (.seq (.reg false [⟨some 69, (Op.move (Operand.tmp 0)), none⟩,
    ⟨some 70, (Op.call { callee := (Callee.builtin Builtin.len), args := #[(Operand.tmp 69)], argTypes := #[45] }), none⟩,
    ⟨some 71, (Op.move (Operand.const (Value.int IntKind.i64 0))), none⟩])
  (.block 2 (.loop [0, 1, 2, 3, 8, 69, 70, 71] false
    (.seq (.reg false [⟨some 72, (Op.binOp BinOp.lss 3 (Operand.tmp 71) (Operand.tmp 70) 3), none⟩])
    (.seq (.cond (Operand.tmp 72)
      .skip
      (.exit 2))
    (.seq (.block 3 (.seq (.reg false [⟨some 73, (Op.move (Operand.tmp 71)), none⟩,
      ⟨some 74, (Op.indexAddr 45 (Operand.tmp 69) (Operand.tmp 71)), none⟩,
      ⟨some 75, (Op.load 40 (Operand.tmp 74)), none⟩,
      ⟨some 13, (Op.alloc 40), none⟩,
      ⟨some 12, (Op.assign (Operand.tmp 73)), none⟩,
      ⟨none, (Op.store 40 (Operand.tmp 13) (Operand.tmp 75)), none⟩])
    (.seq (.reg false [⟨some 76, (Op.load 40 (Operand.tmp 13)), none⟩,
      ⟨some 77, (Op.move (Operand.tmp 0)), none⟩,
      ⟨some 78, (Op.move (Operand.tmp 2)), none⟩,
      ⟨some 79, (Op.move (Operand.tmp 3)), none⟩,
      ⟨some 80, (Op.move (Operand.tmp 12)), none⟩,
      ⟨some 81, (Op.call { callee := (Callee.value (Operand.func 66)), args := #[(Operand.tmp 78), (Operand.tmp 79), (Operand.tmp 80)], argTypes := #[22, 22, 3] }), none⟩,
      ⟨some 82, (Op.indexAddr 45 (Operand.tmp 77) (Operand.tmp 81)), none⟩,
      ⟨some 83, (Op.load 40 (Operand.tmp 82)), none⟩,
      ⟨some 84, (Op.call { callee := (Callee.value (Operand.func 93)), args := #[(Operand.tmp 76), (Operand.tmp 83)], argTypes := #[40, 40] }), none⟩,
      ⟨some 85, (Op.unOp UnOp.not 4 (Operand.tmp 84)), none⟩])
    (.cond (Operand.tmp 85)
      (.seq (.reg false [⟨some 86, (Op.build 40 #[]), none⟩,
        ⟨none, (Op.store 40 (Operand.tmp 8) (Operand.tmp 86)), none⟩,
        ⟨some 9, (Op.assign (Operand.const (Value.int IntKind.i64 25))), none⟩])
      .ret)
      .skip))))
    (.reg false [⟨some 87, (Op.binOp BinOp.add 3 (Operand.tmp 71) (Operand.const (Value.int IntKind.i64 1)) 3), none⟩,
      ⟨some 71, (Op.move (Operand.tmp 87)), none⟩])))))))
  (.seq (.reg false [⟨some 89, (Op.move (Operand.tmp 1)), none⟩,
    ⟨some 90, (Op.call { callee := (Callee.value (Operand.func 94)), args := #[(Operand.tmp 89), (Operand.const (Value.int IntKind.i64 0))], argTypes := #[22, 2] }), none⟩,
    ⟨some 88, (Op.move (Operand.tmp 90)), none⟩,
    ⟨some 91, (Op.extract (Operand.tmp 88) 0), none⟩,
    ⟨some 92, (Op.extract (Operand.tmp 88) 1), none⟩,
    ⟨some 14, (Op.alloc 40), none⟩,
    ⟨none, (Op.store 40 (Operand.tmp 14) (Operand.tmp 91)), none⟩,
    ⟨some 15, (Op.assign (Operand.tmp 92)), none⟩])
  (.seq (.seq (.reg false [⟨some 93, (Op.move (Operand.tmp 0)), none⟩,
    ⟨some 94, (Op.call { callee := (Callee.builtin Builtin.len), args := #[(Operand.tmp 93)], argTypes := #[45] }), none⟩,
    ⟨some 95, (Op.move (Operand.const (Value.int IntKind.i64 0))), none⟩])
  (.block 4 (.loop [1, 2, 3, 8, 14, 15, 93, 94, 95] false
    (.seq (.reg false [⟨some 96, (Op.binOp BinOp.lss 3 (Operand.tmp 95) (Operand.tmp 94) 3), none⟩])
    (.seq (.cond (Operand.tmp 96)
      .skip
      (.exit 4))
    (.seq (.block 5 (.seq (.reg false [⟨some 97, (Op.move (Operand.tmp 95)), none⟩,
      ⟨some 98, (Op.indexAddr 45 (Operand.tmp 93) (Operand.tmp 95)), none⟩,
      ⟨some 99, (Op.load 40 (Operand.tmp 98)), none⟩,
      ⟨some 17, (Op.alloc 40), none⟩,
      ⟨some 16, (Op.assign (Operand.tmp 97)), none⟩,
      ⟨none, (Op.store 40 (Operand.tmp 17) (Operand.tmp 99)), none⟩])
    (.seq (.reg false [⟨some 100, (Op.move (Operand.tmp 1)), none⟩,
      ⟨some 101, (Op.move (Operand.tmp 2)), none⟩,
      ⟨some 102, (Op.move (Operand.tmp 3)), none⟩,
      ⟨some 103, (Op.move (Operand.tmp 16)), none⟩,
      ⟨some 104, (Op.call { callee := (Callee.value (Operand.func 22)), args := #[(Operand.tmp 100), (Operand.tmp 101), (Operand.tmp 102), (Operand.tmp 103)], argTypes := #[22, 22, 22, 3] }), none⟩,
      ⟨some 18, (Op.assign (Operand.tmp 104)), none⟩])
    (.seq (.reg false [⟨some 105, (Op.fieldAddr 40 (Operand.tmp 17) 1), none⟩,
      ⟨some 106, (Op.load 38 (Operand.tmp 105)), none⟩,
      ⟨some 107, (Op.call { callee := (Callee.builtin Builtin.len), args := #[(Operand.tmp 106)], argTypes := #[38] }), none⟩,
      ⟨some 108, (Op.move (Operand.const (Value.int IntKind.i64 0))), none⟩])
    (.block 6 (.loop [1, 2, 3, 8, 14, 15, 17, 18, 93, 94, 95, 106, 107, 108] false
      (.seq (.reg false [⟨some 109, (Op.binOp BinOp.lss 3 (Operand.tmp 108) (Operand.tmp 107) 3), none⟩])
      (.seq (.cond (Operand.tmp 109)
        .skip
        (.exit 6))
      (.seq (.block 7 (.seq (.reg false [⟨some 110, (Op.move (Operand.tmp 108)), none⟩,
        ⟨some 111, (Op.indexAddr 38 (Operand.tmp 106) (Operand.tmp 108)), none⟩,
        ⟨some 112, (Op.load 2 (Operand.tmp 111)), none⟩,
        ⟨some 19, (Op.assign (Operand.tmp 110)), none⟩,
        ⟨some 20, (Op.assign (Operand.tmp 112)), none⟩])
      (.seq (.reg false [⟨some 113, (Op.fieldAddr 40 (Operand.tmp 17) 0), none⟩,
        ⟨some 114, (Op.load 22 (Operand.tmp 113)), none⟩,
        ⟨some 115, (Op.move (Operand.tmp 19)), none⟩,
        ⟨some 116, (Op.call { callee := (Callee.value (Operand.func 95)), args := #[(Operand.tmp 114), (Operand.tmp 115)], argTypes := #[22, 3] }), none⟩,
        ⟨some 21, (Op.assign (Operand.tmp 116)), none⟩])
      (.seq (.seq (.reg false [⟨some 117, (Op.move (Operand.tmp 21)), none⟩,
        ⟨some 118, (Op.call { callee := (Callee.builtin Builtin.len), args := #[(Operand.tmp 117)], argTypes := #[22] }), none⟩,
        ⟨some 119, (Op.move (Operand.const (Value.int IntKind.i64 0))), none⟩])
      (.block 8 (.loop [1, 2, 3, 8, 14, 15, 17, 18, 20, 21, 93, 94, 95, 106, 107, 108, 118, 119] false
        (.seq (.reg false [⟨some 120, (Op.binOp BinOp.lss 3 (Operand.tmp 119) (Operand.tmp 118) 3), none⟩])
        (.seq (.cond (Operand.tmp 120)
          .skip
          (.exit 8))
        (.seq (.block 9 (.seq (.reg false [⟨some 121, (Op.move (Operand.tmp 119)), none⟩,
          ⟨some 22, (Op.assign (Operand.tmp 121)), none⟩])
        (.reg false [⟨some 122, (Op.move (Operand.tmp 21)), none⟩,
          ⟨some 123, (Op.move (Operand.tmp 22)), none⟩,
          ⟨some 124, (Op.indexAddr 22 (Operand.tmp 122) (Operand.tmp 123)), none⟩,
          ⟨some 125, (Op.load 3 (Operand.tmp 124)), none⟩,
          ⟨some 126, (Op.move (Operand.tmp 18)), none⟩,
          ⟨some 127, (Op.move (Operand.tmp 22)), none⟩,
          ⟨some 128, (Op.indexAddr 22 (Operand.tmp 126) (Operand.tmp 127)), none⟩,
          ⟨some 129, (Op.load 3 (Operand.tmp 128)), none⟩,
          ⟨some 130, (Op.binOp BinOp.add 3 (Operand.tmp 125) (Operand.tmp 129) 3), none⟩,
          ⟨some 131, (Op.indexAddr 22 (Operand.tmp 122) (Operand.tmp 123)), none⟩,
          ⟨none, (Op.store 3 (Operand.tmp 131) (Operand.tmp 130)), none⟩])))
        (.reg false [⟨some 132, (Op.binOp BinOp.add 3 (Operand.tmp 119) (Operand.const (Value.int IntKind.i64 1)) 3), none⟩,
          ⟨some 119, (Op.move (Operand.tmp 132)), none⟩])))))))
      (.reg false [⟨some 133, (Op.fieldAddr 40 (Operand.tmp 14) 1), none⟩,
        ⟨some 134, (Op.load 38 (Operand.tmp 133)), none⟩,
        ⟨some 135, (Op.move (Operand.tmp 1)), none⟩,
        ⟨some 136, (Op.move (Operand.tmp 21)), none⟩,
        ⟨some 137, (Op.call { callee := (Callee.value (Operand.func 96)), args := #[(Operand.tmp 135), (Operand.tmp 136)], argTypes := #[22, 22] }), none⟩,
        ⟨some 138, (Op.move (Operand.tmp 20)), none⟩,
        ⟨some 139, (Op.indexAddr 38 (Operand.tmp 134) (Operand.tmp 137)), none⟩,
        ⟨none, (Op.store 2 (Operand.tmp 139) (Operand.tmp 138)), none⟩])))))
      (.reg false [⟨some 140, (Op.binOp BinOp.add 3 (Operand.tmp 108) (Operand.const (Value.int IntKind.i64 1)) 3), none⟩,
        ⟨some 108, (Op.move (Operand.tmp 140)), none⟩]))))))))))
    (.reg false [⟨some 141, (Op.binOp BinOp.add 3 (Operand.tmp 95) (Operand.const (Value.int IntKind.i64 1)) 3), none⟩,
      ⟨some 95, (Op.move (Operand.tmp 141)), none⟩])))))))
  (.seq (.reg false [⟨some 142, (Op.load 40 (Operand.tmp 14)), none⟩,
    ⟨some 143, (Op.move (Operand.tmp 15)), none⟩,
    ⟨none, (Op.store 40 (Operand.tmp 8) (Operand.tmp 142)), none⟩,
    ⟨some 9, (Op.assign (Operand.tmp 143)), none⟩])
  .ret))))))))
noncomputable def b38 : Code := Try.f38.body.getD .skip
theorem hb38 : Try.f38.body = some b38 := by kernel_rfl
theorem sh38 : shortC A38 b38 = c38 := by kernel_rfl
def rs38 : List ResultVar := [(ResultVar.cell 8 40), (ResultVar.tmp 9)]
theorem hr38 : Try.f38.results.toList = rs38 := by kernel_rfl
/-! parquetry/parquetrylaw17.known (0 parameters; calls 37 parquetry/split.All, 38 parquetry/split.Join) -/
def A36 : Ann := { drop := fun i => false }
noncomputable def c36 : Cc :=
  (.seq (.reg false [⟨some 0, (Op.assign (Operand.const (Value.bool false))), none⟩])
  (.seq (.reg false [⟨some 6, (Op.buildSlice 22 1 #[(0, (Operand.const (Value.int IntKind.i64 3)))]), none⟩,
    ⟨some 7, (Op.buildSlice 38 3 #[(0, (Operand.const (Value.int IntKind.i64 1))), (1, (Operand.const (Value.int IntKind.i64 2))), (2, (Operand.const (Value.int IntKind.i64 3)))]), none⟩,
    ⟨some 8, (Op.build 40 #[(0, (Operand.tmp 6)), (1, (Operand.tmp 7))]), none⟩,
    ⟨some 1, (Op.alloc 40), none⟩,
    ⟨none, (Op.store 40 (Operand.tmp 1) (Operand.tmp 8)), none⟩])
  (.seq (.reg false [⟨some 10, (Op.load 40 (Operand.tmp 1)), none⟩,
    ⟨some 11, (Op.buildSlice 22 1 #[(0, (Operand.const (Value.int IntKind.i64 2)))]), none⟩,
    ⟨some 12, (Op.buildSlice 22 1 #[(0, (Operand.const (Value.int IntKind.i64 0)))]), none⟩,
    ⟨some 13, (Op.call { callee := (Callee.value (Operand.func 37)), args := #[(Operand.tmp 10), (Operand.tmp 11), (Operand.tmp 12)], argTypes := #[40, 22, 22] }), none⟩,
    ⟨some 9, (Op.move (Operand.tmp 13)), none⟩,
    ⟨some 14, (Op.extract (Operand.tmp 9) 0), none⟩,
    ⟨some 15, (Op.extract (Operand.tmp 9) 1), none⟩,
    ⟨some 2, (Op.assign (Operand.tmp 14)), none⟩,
    ⟨some 3, (Op.assign (Operand.tmp 15)), none⟩])
  (.seq (.reg false [⟨some 17, (Op.load 40 (Operand.tmp 1)), none⟩,
    ⟨some 18, (Op.buildSlice 22 1 #[(0, (Operand.const (Value.int IntKind.i64 3)))]), none⟩,
    ⟨some 19, (Op.buildSlice 38 3 #[(0, (Operand.const (Value.int IntKind.i64 1))), (1, (Operand.const (Value.int IntKind.i64 2))), (2, (Operand.const (Value.int IntKind.i64 4)))]), none⟩,
    ⟨some 20, (Op.build 40 #[(0, (Operand.tmp 18)), (1, (Operand.tmp 19))]), none⟩,
    ⟨some 21, (Op.buildSlice 45 2 #[(0, (Operand.tmp 17)), (1, (Operand.tmp 20))]), none⟩,
    ⟨some 22, (Op.buildSlice 22 1 #[(0, (Operand.const (Value.int IntKind.i64 3)))]), none⟩,
    ⟨some 23, (Op.buildSlice 22 1 #[(0, (Operand.const (Value.int IntKind.i64 2)))]), none⟩,
    ⟨some 24, (Op.buildSlice 22 1 #[(0, (Operand.const (Value.int IntKind.i64 (-1))))]), none⟩,
    ⟨some 25, (Op.call { callee := (Callee.value (Operand.func 38)), args := #[(Operand.tmp 21), (Operand.tmp 22), (Operand.tmp 23), (Operand.tmp 24)], argTypes := #[45, 22, 22, 22] }), none⟩,
    ⟨some 16, (Op.move (Operand.tmp 25)), none⟩,
    ⟨some 26, (Op.extract (Operand.tmp 16) 0), none⟩,
    ⟨some 27, (Op.extract (Operand.tmp 16) 1), none⟩,
    ⟨some 4, (Op.alloc 40), none⟩,
    ⟨none, (Op.store 40 (Operand.tmp 4) (Operand.tmp 26)), none⟩,
    ⟨some 5, (Op.assign (Operand.tmp 27)), none⟩])
  (.seq (.reg false [⟨some 28, (Op.move (Operand.tmp 3)), none⟩,
    ⟨some 29, (Op.binOp BinOp.eql 46 (Operand.tmp 28) (Operand.const (Value.int IntKind.i64 0)) 46), none⟩,
    ⟨some 30, (Op.move (Operand.tmp 29)), none⟩,
    ⟨some 31, (Op.move (Operand.tmp 2)), some (30, true)⟩,
    ⟨some 32, (Op.call { callee := (Callee.builtin Builtin.len), args := #[(Operand.tmp 31)], argTypes := #[45] }), some (30, true)⟩,
    ⟨some 33, (Op.binOp BinOp.eql 3 (Operand.tmp 32) (Operand.const (Value.int IntKind.i64 2)) 3), some (30, true)⟩,
    ⟨some 34, (Op.pick (Operand.tmp 30) (Operand.tmp 33) (Operand.const (Value.bool false))), none⟩,
    ⟨some 35, (Op.move (Operand.tmp 34)), none⟩,
    ⟨some 36, (Op.move (Operand.tmp 2)), some (35, true)⟩,
    ⟨some 37, (Op.indexAddr 45 (Operand.tmp 36) (Operand.const (Value.int IntKind.i64 0))), some (35, true)⟩,
    ⟨some 38, (Op.fieldAddr 40 (Operand.tmp 37) 1), some (35, true)⟩,
    ⟨some 39, (Op.load 38 (Operand.tmp 38)), some (35, true)⟩,
    ⟨some 40, (Op.call { callee := (Callee.builtin Builtin.len), args := #[(Operand.tmp 39)], argTypes := #[38] }), some (35, true)⟩,
    ⟨some 41, (Op.binOp BinOp.eql 3 (Operand.tmp 40) (Operand.const (Value.int IntKind.i64 2)) 3), some (35, true)⟩,
    ⟨some 42, (Op.pick (Operand.tmp 35) (Operand.tmp 41) (Operand.const (Value.bool false))), none⟩,
    ⟨some 43, (Op.move (Operand.tmp 42)), none⟩,
    ⟨some 44, (Op.move (Operand.tmp 2)), some (43, true)⟩,
    ⟨some 45, (Op.indexAddr 45 (Operand.tmp 44) (Operand.const (Value.int IntKind.i64 1))), some (43, true)⟩,
    ⟨some 46, (Op.fieldAddr 40 (Operand.tmp 45) 1), some (43, true)⟩,
    ⟨some 47, (Op.load 38 (Operand.tmp 46)), some (43, true)⟩,
    ⟨some 48, (Op.call { callee := (Callee.builtin Builtin.len), args := #[(Operand.tmp 47)], argTypes := #[38] }), some (43, true)⟩,
    ⟨some 49, (Op.binOp BinOp.eql 3 (Operand.tmp 48) (Operand.const (Value.int IntKind.i64 1)) 3), some (43, true)⟩,
    ⟨some 50, (Op.pick (Operand.tmp 43) (Operand.tmp 49) (Operand.const (Value.bool false))), none⟩,
    ⟨some 51, (Op.move (Operand.tmp 50)), none⟩,
    ⟨some 52, (Op.move (Operand.tmp 2)), some (51, true)⟩,
    ⟨some 53, (Op.indexAddr 45 (Operand.tmp 52) (Operand.const (Value.int IntKind.i64 1))), some (51, true)⟩,
    ⟨some 54, (Op.fieldAddr 40 (Operand.tmp 53) 1), some (51, true)⟩,
    ⟨some 55, (Op.load 38 (Operand.tmp 54)), some (51, true)⟩,
    ⟨some 56, (Op.indexAddr 38 (Operand.tmp 55) (Operand.const (Value.int IntKind.i64 0))), some (51, true)⟩,
    ⟨some 57, (Op.load 2 (Operand.tmp 56)), some (51, true)⟩,
    ⟨some 58, (Op.binOp BinOp.eql 2 (Operand.tmp 57) (Operand.const (Value.int IntKind.i64 3)) 2), some (51, true)⟩,
    ⟨some 59, (Op.pick (Operand.tmp 51) (Operand.tmp 58) (Operand.const (Value.bool false))), none⟩,
    ⟨some 60, (Op.move (Operand.tmp 59)), none⟩,
    ⟨some 61, (Op.move (Operand.tmp 5)), some (60, true)⟩,
    ⟨some 62, (Op.binOp BinOp.eql 46 (Operand.tmp 61) (Operand.const (Value.int IntKind.i64 25)) 46), some (60, true)⟩,
    ⟨some 63, (Op.pick (Operand.tmp 60) (Operand.tmp 62) (Operand.const (Value.bool false))), none⟩,
    ⟨some 0, (Op.assign (Operand.tmp 63)), none⟩])
  .ret)))))
noncomputable def b36 : Code := Try.f36.body.getD .skip
theorem hb36 : Try.f36.body = some b36 := by kernel_rfl
theorem sh36 : shortC A36 b36 = c36 := by kernel_rfl
def rs36 : List ResultVar := [(ResultVar.tmp 0)]
theorem hr36 : Try.f36.results.toList = rs36 := by kernel_rfl
/-! parquetry/parquetrylaw17.SplitBack (1 parameters; calls 20 parquetry/parquetryref14.Devices, 23 parquetry/parquetryref14.Copies, 31 parquetry/parquetrylaw17.made, 36 parquetry/parquetrylaw17.known, 37 parquetry/split.All, 38 parquetry/split.Join, 39 parquetry/parquetryref1.Same) -/
def A10 : Ann := { live := fun i => if i = 6 then [3, 4, 5, 6, 7, 8, 9, 10, 35, 36] else [], drop := fun i => false }
noncomputable def b10 : Code := Try.f10.body.getD .skip
/- Walks: parts put together. -/
section
variable {E : Env} {sh : Bool} {full : List Co} {rs : List (Nat × Nat)} {s : Sl} {H : Hp} {tr : List (Sl × Hp)} {k : Ct}
theorem goTYes {d o l v H' j want q} (hg : get s j = .bool want) (e : xdo E T sh o s H = q) (eq : q = some (v, H')) (h : YT E T sh full rs l ((d, v) :: s) H' (tr ++ [(s, H)]) k) : YT E T sh full rs (⟨some d, o, some (j, want)⟩ :: l) s H tr k := ⟨by
  simp only [XT, XG_some j want _ _ hg, e, eq, opt_some]; exact ⟨fun _ => h.out, fun hh => absurd rfl hh⟩⟩
theorem goTNo {d o l j want} (hg : get s j = .bool (!want)) (h : YT E T sh full rs l ((d, .tup []) :: s) H (tr ++ [(s, H)]) k) : YT E T sh full rs (⟨some d, o, some (j, want)⟩ :: l) s H tr k := ⟨by
  simp only [XT, XG_some j want _ _ hg]; exact ⟨fun hh => (by cases want <;> cases hh), fun _ => h.out⟩⟩
end
theorem err_facts {H G : Hp} {p0 q0 : Nat} (hw : Wf H) (hx : Ext H G) (d0 : OwnC H G p0 q0 [.nilS, .nilS]) :
    astore T 40 (.ptr p0 q0 0) (.agg [.nilS, .nilS]) G = some (G.put p0 ⟨q0, [.nilS, .nilS], true, true⟩) ∧ aload T 40 (.ptr p0 q0 0) (G.put p0 ⟨q0, [.nilS, .nilS], true, true⟩) = some (.agg [.nilS, .nilS]) ∧ Hide (Ext H (G.put p0 ⟨q0, [.nilS, .nilS], true, true⟩)) :=
  ⟨st40 d0.at' rfl rfl, ld40 (at_put_same d0.at' rfl), ⟨put_ext hw hx d0.new d0.at'⟩⟩
/-! ### what it comes to -/
def jd (s fr sh dat : List Int) : Nat → List Int → List Int
  | 0, D => D
  | i + 1, D => (jd s fr sh dat i D).set (idxL s (addL (meshAt sh (i : Nat)) fr)).toNat (nth dat (i : Nat))
noncomputable def ja (L : List TS) (s sz sp : List Int) : Nat → List Int → List Int
  | 0, D => D
  | d + 1, D => jd s (fromL s sz sp (d : Nat)) (tth L d).1 (tth L d).2 (tth L d).2.length (ja L s sz sp d D)
noncomputable def ok1 (L : List TS) (s sz sp : List Int) (d : Nat) : Bool := tOK (tth L d) && sameL (tth L d).1 (sizeL s sz sp d)
def ok2 (L : List TS) (sz sp : List Int) (d : Nat) : Bool := sameT (tth L d) (tth L (firstL sz sp d).toNat)
def allN (f : Nat → Bool) (n : Nat) : Bool := (List.range n).all f
theorem allN_iff (f : Nat → Bool) (n : Nat) : allN f n = true ↔ ∀ j, j < n → f j = true := by simp [allN]
noncomputable def joinD (L : List TS) (s sz sp : List Int) : List Int := ja L s sz sp L.length (List.replicate (sizeOf s).toNat 0)
noncomputable def joinT (sv : AV) (L : List TS) (s sz sp : List Int) : Tr :=
  if meshOK sz = true ∧ shapeOK s = true ∧ specOK sz sp s.length = true then
    (if (L.length : Int) = devs sz then
      (if allN (ok1 L s sz sp) L.length = true then
        (if allN (ok2 L sz sp) L.length = true then okTn (clT sv s) (trF (joinD L s sz sp)) else zeroT 25)
      else zeroT 13)
    else zeroT 13)
  else zeroT 1
noncomputable def F38 (args : List AV) (H : Hp) : Option (AV × Hp) := match args with
  | [l, s, a, b] => (tensL H l).bind fun L => (ints H s).bind fun sh => (ints H a).bind fun sz => (ints H b).bind fun sp => if notMt s = true ∧ (shapeOK sh = true → sh.length < 1099511627776) then some (mk (joinT s L sh sz sp) H) else none
  | _ => none
theorem sameGo_eq : ∀ (l m : List Int), l.length = m.length → sameGo l m = true → l = m := by
  intro l
  induction l with
  | nil => intro m h _; exact (List.eq_nil_of_length_eq_zero (by simpa using h.symm)).symm
  | cons a l ih =>
    intro m h hs
    cases m with
    | nil => simp at h
    | cons b m =>
      simp only [sameGo] at hs
      split at hs
      · rename_i hab
        have hab' : a = b := by simpa [nth] using hab
        rw [hab', ih m (by simpa using h) (by simpa using hs)]
      · cases hs
theorem sameL_eq {l m : List Int} (h : sameL l m = true) : l = m := by
  unfold sameL at h
  split at h
  · exact sameGo_eq l m (by assumption) h
  · cases h
theorem jd_len (s fr sh dat : List Int) : ∀ (n : Nat) (D : List Int), (jd s fr sh dat n D).length = D.length := by
  intro n
  induction n with
  | zero => intro D; rfl
  | succ n ih => intro D; simp [jd, ih]
theorem ja_len (L : List TS) (s sz sp : List Int) : ∀ (n : Nat) (D : List Int), (ja L s sz sp n D).length = D.length := by
  intro n
  induction n with
  | zero => intro D; rfl
  | succ n ih => intro D; simp [ja, jd_len, ih]
set_option maxHeartbeats 4000000 in
theorem snd38 : Sound Try.prog 38 (FSem.eff F38).run := by
  refine sound_of hT (EOK_cons snd21 (EOK_cons snd22 (EOK_cons snd63 (EOK_cons snd66 (EOK_cons snd88 (EOK_cons snd89 (EOK_cons snd90 (EOK_cons snd91 (EOK_cons snd92 (EOK_cons snd93 (EOK_cons snd94 (EOK_cons snd95 (EOK_cons snd96 (EOK_nil _)))))))))))))) mixed A38 Try.func38 hb38 (by kernel_rfl) (by kernel_rfl) (by kernel_rfl) (by kernel_rfl) sh38 4 (by kernel_rfl) rs38 hr38 ?_
  intro args H r H' hw h
  have hv : F38 args H = some (r, H') := h
  clear h
  unfold F38 at hv
  split at hv
  · rename_i lv sv av bv
    obtain ⟨L, hL, hv⟩ := Option.bind_eq_some_iff.1 hv
    obtain ⟨s, hs, hv⟩ := Option.bind_eq_some_iff.1 hv
    obtain ⟨sz, hsz, hv⟩ := Option.bind_eq_some_iff.1 hv
    obtain ⟨sp, hsp, hv⟩ := Option.bind_eq_some_iff.1 hv
    split at hv
    rotate_left
    · cases hv
    rename_i hmax
    obtain ⟨hmt, hmax⟩ := hmax
    have hvv := Hide.mk (Option.some.inj hv)
    clear hv
    have x0 : Ext H (H.new [.nilS, .nilS]) := (Ext.refl hw).new _
    have c0 : OwnC H (H.new [.nilS, .nilS]) H.bs.length H.c [.nilS, .nilS] := ⟨Nat.le_refl _, new_at _ _⟩
    have hq0lt : H.c < (H.new [AV.nilS, AV.nilS]).c := Nat.lt_succ_self _
    generalize hH0 : H.new [.nilS, .nilS] = H0 at *
    generalize hp0 : H.bs.length = p0 at *
    generalize hq0 : H.c = q0 at *
    have hLL := tensL_at (tensL_ext x0.pre hL)
    have hs0 := ints_ext x0.pre hs
    have hsz0 := ints_ext x0.pre hsz
    have hsp0 := ints_ext x0.pre hsp
    have hlS := alenS_ints hs0
    simp only [← alen22] at hlS
    have hlL := hLL.1
    have hLb := hLL.2.1
    clear hLL
    refine ⟨rfl, go ?_⟩
    unfold c38
    simp only [argSl]
    obtain ⟨st0, lr0, hp0'⟩ := err_facts hw x0 c0
    replace hL := Hide.mk hL
    replace hs := Hide.mk hs
    replace hsz := Hide.mk hsz
    replace hsp := Hide.mk hsp
    replace x0 := Hide.mk x0
    replace c0 := Hide.mk c0
    have fin : ∀ (e : Int), joinT sv L s sz sp = zeroT e → mk (zeroT e) H = (r, H') := fun e h => by rw [← h]; exact hvv.out
    replace fin := Hide.mk fin
    rcases h1 : meshOK sz with _ | _
    · repeat' (first | apply goSeq | apply goReg | apply goSeqN | apply goSeqR | apply goSkip | apply goRet | apply goNil | apply goBlock | apply goExit | apply goBlkN | apply goBlkR | apply goBlkE | apply goSeqE | apply goLoopR | apply goLoopE | refine xOp ?_ | refine xOp0 ?_ | refine xYes ?_ | refine xNo ?_ | refine xNoU ?_ | refine xIfT ?_ | refine xIfF ?_ | refine xIf ?_ ?_ | refine xSplit ?_ ?_ | refine xIfQ ?_ ?_ | refine xSplitQ ?_ ?_ | refine xBlkX ?_ | intro _)
      exact goEndR (vs := [.agg [.nilS, .nilS], .int .i64 1]) (bs := []) (d := H.c) (t := zeroT 1) hw hp0'.out.pre (rep_zero _ _ _) (Fresh.nil _ _) (by simp) (by simp [rs38, lr0]) rfl (fin.out 1 (by simp [joinT, h1]))
    rcases h2 : shapeOK s with _ | _
    · repeat' (first | apply goSeq | apply goReg | apply goSeqN | apply goSeqR | apply goSkip | apply goRet | apply goNil | apply goBlock | apply goExit | apply goBlkN | apply goBlkR | apply goBlkE | apply goSeqE | apply goLoopR | apply goLoopE | refine xOp ?_ | refine xOp0 ?_ | refine xYes ?_ | refine xNo ?_ | refine xNoU ?_ | refine xIfT ?_ | refine xIfF ?_ | refine xIf ?_ ?_ | refine xSplit ?_ ?_ | refine xIfQ ?_ ?_ | refine xSplitQ ?_ ?_ | refine xBlkX ?_ | intro _)
      exact goEndR (vs := [.agg [.nilS, .nilS], .int .i64 1]) (bs := []) (d := H.c) (t := zeroT 1) hw hp0'.out.pre (rep_zero _ _ _) (Fresh.nil _ _) (by simp) (by simp [rs38, lr0]) rfl (fin.out 1 (by simp [joinT, h2]))
    rcases h3 : specOK sz sp s.length with _ | _
    · repeat' (first | apply goSeq | apply goReg | apply goSeqN | apply goSeqR | apply goSkip | apply goRet | apply goNil | apply goBlock | apply goExit | apply goBlkN | apply goBlkR | apply goBlkE | apply goSeqE | apply goLoopR | apply goLoopE | refine xOp ?_ | refine xOp0 ?_ | refine xYes ?_ | refine xNo ?_ | refine xNoU ?_ | refine xIfT ?_ | refine xIfF ?_ | refine xIf ?_ ?_ | refine xSplit ?_ ?_ | refine xIfQ ?_ ?_ | refine xSplitQ ?_ ?_ | refine xBlkX ?_ | intro _)
      exact goEndR (vs := [.agg [.nilS, .nilS], .int .i64 1]) (bs := []) (d := H.c) (t := zeroT 1) hw hp0'.out.pre (rep_zero _ _ _) (Fresh.nil _ _) (by simp) (by simp [rs38, lr0]) rfl (fin.out 1 (by simp [joinT, h3]))
    by_cases h4 : devs sz = L.length
    rotate_left
    · have h4' : ¬ (L.length : Int) = devs sz := fun e => h4 e.symm
      repeat' (first | apply goSeq | apply goReg | apply goSeqN | apply goSeqR | apply goSkip | apply goRet | apply goNil | apply goBlock | apply goExit | apply goBlkN | apply goBlkR | apply goBlkE | apply goSeqE | apply goLoopR | apply goLoopE | refine xOp ?_ | refine xOp0 ?_ | refine xYes ?_ | refine xNo ?_ | refine xNoU ?_ | refine xIfT ?_ | refine xIfF ?_ | refine xIf ?_ ?_ | refine xSplit ?_ ?_ | refine xIfQ ?_ ?_ | refine xSplitQ ?_ ?_ | refine xBlkX ?_ | intro _)
      exact goEndR (vs := [.agg [.nilS, .nilS], .int .i64 13]) (bs := []) (d := H.c) (t := zeroT 13) hw hp0'.out.pre (rep_zero _ _ _) (Fresh.nil _ _) (by simp) (by simp [rs38, lr0]) rfl (fin.out 13 (by simp [joinT, h1, h2, h3, h4']))
    have hsplen : sp.length = s.length := by have := (specOK_lt h3).1; omega
    have hspOK : specOK sz sp sp.length = true := by rw [hsplen]; exact h3
    repeat' (first | apply goSeq | apply goReg | apply goSeqN | apply goSeqR | apply goSkip | apply goRet | apply goNil | apply goBlock | apply goExit | apply goBlkN | apply goBlkR | apply goBlkE | apply goSeqE | apply goLoopR | apply goLoopE | refine xOp ?_ | refine xOp0 ?_ | refine xYes ?_ | refine xNo ?_ | refine xNoU ?_ | refine xIfT ?_ | refine xIfF ?_ | refine xIf ?_ ?_ | refine xSplit ?_ ?_ | refine xIfQ ?_ ?_ | refine xSplitQ ?_ ?_ | refine xBlkX ?_ | intro _)
    clear hH0 hp0 hs0 hsz0 hsp0 st0 lr0 hp0'
    have hHc : H.c ≤ q0 := by omega
    clear hq0
    replace hsplen := Hide.mk hsplen
    replace hspOK := Hide.mk hspOK
    -- are they right?
    refine goLoop (fun m s1 G => ∃ d : Nat, m = L.length - d ∧ d ≤ L.length ∧ get s1 0 = lv ∧ get s1 1 = sv ∧ get s1 2 = av ∧ get s1 3 = bv ∧ get s1 8 = .ptr p0 q0 0 ∧ get s1 46 = lv ∧ get s1 47 = .int .i64 L.length ∧ get s1 48 = .int .i64 d ∧ Ext H G ∧ OwnC H G p0 q0 [.nilS, .nilS] ∧ ∀ j, j < d → ok1 L s sz sp j = true) L.length ?_ ?_
    · exact ⟨0, rfl, Nat.zero_le _, rfl, rfl, rfl, rfl, rfl, rfl, rfl, rfl, x0.out, c0.out, by intro j h; omega⟩
    clear c0 x0
    rintro m s1 G ⟨d, hmm, hd, g1, g2, g3, g4, g5, g6, g7, g8, hx, d0, hok⟩
    simp only [cut_cons, cut_nil, g1, g2, g3, g4, g5, g6, g7, g8]
    clear g1 g2 g3 g4 g5 g6 g7 g8
    have hd0 : (0 : Int) ≤ d := Int.natCast_nonneg d
    have hw1 : w ((d : Int) + 1) = ((d + 1 : Nat) : Int) := w_id (by omega)
    replace hok := Hide.mk hok
    by_cases hdn : d < L.length
    · have hdn' : (d : Int) < L.length := by omega
      obtain ⟨q, x, y, hq1, hq2, hq3, _⟩ := (tensL_at (tensL_ext hx.pre hL.out)).2.2 d hdn
      obtain ⟨_, _, hag, hxi, hyi⟩ := tens_some hq3
      cases hag
      have st1 := st40 (x := x) (y := y) (new_at G [.nilS, .nilS]) (ints_one' hxi) (ints_one' hyi)
      have x1 : Ext G (G.new [.nilS, .nilS]) := (Ext.refl hx.wf).new _
      have x2 : Ext G ((G.new [.nilS, .nilS]).put G.bs.length ⟨G.c, [x, y], true, true⟩) := put_ext hx.wf x1 (Nat.le_refl _) (new_at _ _)
      have a2 : ((G.new [.nilS, .nilS]).put G.bs.length ⟨G.c, [x, y], true, true⟩).at G.bs.length G.c = some ⟨G.c, [x, y], true, true⟩ := at_put_same (new_at G _) rfl
      generalize hG1 : G.new [.nilS, .nilS] = G1 at *
      generalize hG2 : G1.put G.bs.length ⟨G.c, [x, y], true, true⟩ = G2 at *
      have l1 := ld40 a2
      have l2 := ld22 a2 0
      simp only [List.getElem?_cons_zero] at l2
      have hx2 := hx.trans x2
      have ht2 := tens_ext x2.pre hq3
      have d2 := d0.ext x2.pre
      have hxi2 := ints_ext x2.pre hxi
      have e21 : F21 [sv, av, bv, .int .i64 d] G2 = some (mkS G2 (sizeL s sz sp d)) := by
        simp only [F21, ints_ext hx2.pre hs.out, ints_ext hx2.pre hsz.out, ints_ext hx2.pre hsp.out, Option.bind_some, Option.map_some]
      have x3 := mkS_ext hx2.wf (sizeL s sz sp d)
      have hzi := ints_of_own (mkS_own G2 (sizeL s sz sp d)) (by have := sizeL_len s sz sp d; omega)
      have hokd : ok1 L s sz sp d = (tOK (tth L d) && sameL (tth L d).1 (sizeL s sz sp d)) := rfl
      generalize hSZ : sizeL s sz sp d = SZ at *
      generalize hr3 : mkS G2 SZ = r3 at *
      obtain ⟨zv, G3⟩ := r3
      simp only at x3 hzi
      have hx3 := hx2.trans x3
      have d3 := d2.ext x3.pre
      have l2' := ld22 (x3.pre.at a2) 0
      simp only [List.getElem?_cons_zero] at l2'
      have hxi3 := ints_ext x3.pre hxi2
      have hok1f : ok1 L s sz sp d = false → joinT sv L s sz sp = zeroT 13 := by
        intro h
        have : ¬ allN (ok1 L s sz sp) L.length = true := by rw [allN_iff]; intro hh; rw [hh d hdn] at h; cases h
        simp [joinT, h1, h2, h3, h4, this]
      replace hok1f := Hide.mk hok1f
      rcases ht : tOK (tth L d) with _ | _
      · obtain ⟨st2, lr2, hp2⟩ := err_facts hw hx2 d2
        have hf := fin.out 13 (hok1f.out (by rw [hokd, ht]; rfl))
        replace hf := Hide.mk hf
        clear hok1f hx d0 x1 x2 x3 hx2 hx3 d2 d3 hzi hokd hSZ hr3 hxi hyi hxi2 hxi3 hq3 e21 a2
        repeat' (first | apply goSeq | apply goReg | apply goSeqN | apply goSeqR | apply goSkip | apply goRet | apply goNil | apply goBlock | apply goExit | apply goBlkN | apply goBlkR | apply goBlkE | apply goSeqE | apply goLoopR | apply goLoopE | refine xOp ?_ | refine xOp0 ?_ | refine xYes ?_ | refine xNo ?_ | refine xNoU ?_ | refine xIfT ?_ | refine xIfF ?_ | refine xIf ?_ ?_ | refine xSplit ?_ ?_ | refine xIfQ ?_ ?_ | refine xSplitQ ?_ ?_ | refine xBlkX ?_ | intro _)
        apply goDrw
        iterate 4 (apply goTOp; (· (simp [*]; try exact rfl)); (· exact rfl))
        iterate 9 (apply goTNo; (· (simp; done)))
        apply goTOp; (· (simp [*]; try exact rfl)); (· exact rfl)
        refine goTNil (by simp [again, XG, XG_none, get]) ?_
        repeat' (first | apply goSeq | apply goReg | apply goSeqN | apply goSeqR | apply goSkip | apply goRet | apply goNil | apply goBlock | apply goExit | apply goBlkN | apply goBlkR | apply goBlkE | apply goSeqE | apply goLoopR | apply goLoopE | refine xOp ?_ | refine xOp0 ?_ | refine xYes ?_ | refine xNo ?_ | refine xNoU ?_ | refine xIfT ?_ | refine xIfF ?_ | refine xIf ?_ ?_ | refine xSplit ?_ ?_ | refine xIfQ ?_ ?_ | refine xSplitQ ?_ ?_ | refine xBlkX ?_ | intro _)
        exact goEndR (vs := [.agg [.nilS, .nilS], .int .i64 13]) (bs := []) (d := H.c) (t := zeroT 13) hw hp2.out.pre (rep_zero _ _ _) (Fresh.nil _ _) (by simp) (by simp [rs38, lr2]) rfl hf.out
      · rcases hsm : sameL (tth L d).1 SZ with _ | _
        · obtain ⟨st2, lr2, hp2⟩ := err_facts hw hx3 d3
          have hf := fin.out 13 (hok1f.out (by rw [hokd, ht, hsm]; rfl))
          replace hf := Hide.mk hf
          clear hok1f hx d0 x1 x2 x3 hx2 hx3 d2 d3 hokd hSZ hr3 hxi hyi hxi2 hq3 a2
          repeat' (first | apply goSeq | apply goReg | apply goSeqN | apply goSeqR | apply goSkip | apply goRet | apply goNil | apply goBlock | apply goExit | apply goBlkN | apply goBlkR | apply goBlkE | apply goSeqE | apply goLoopR | apply goLoopE | refine xOp ?_ | refine xOp0 ?_ | refine xYes ?_ | refine xNo ?_ | refine xNoU ?_ | refine xIfT ?_ | refine xIfF ?_ | refine xIf ?_ ?_ | refine xSplit ?_ ?_ | refine xIfQ ?_ ?_ | refine xSplitQ ?_ ?_ | refine xBlkX ?_ | intro _)
          apply goDrw
          iterate 4 (apply goTOp; (· (simp [*]; try exact rfl)); (· exact rfl))
          iterate 9 (apply goTYes; (· (simp [*]; done)); (· (simp [*]; try exact rfl)); (· exact rfl))
          apply goTOp; (· (simp [*]; try exact rfl)); (· exact rfl)
          refine goTNil (by simp [again, XG, XG_none, get, l2, l2']) ?_
          repeat' (first | apply goSeq | apply goReg | apply goSeqN | apply goSeqR | apply goSkip | apply goRet | apply goNil | apply goBlock | apply goExit | apply goBlkN | apply goBlkR | apply goBlkE | apply goSeqE | apply goLoopR | apply goLoopE | refine xOp ?_ | refine xOp0 ?_ | refine xYes ?_ | refine xNo ?_ | refine xNoU ?_ | refine xIfT ?_ | refine xIfF ?_ | refine xIf ?_ ?_ | refine xSplit ?_ ?_ | refine xIfQ ?_ ?_ | refine xSplitQ ?_ ?_ | refine xBlkX ?_ | intro _)
          exact goEndR (vs := [.agg [.nilS, .nilS], .int .i64 13]) (bs := []) (d := H.c) (t := zeroT 13) hw hp2.out.pre (rep_zero _ _ _) (Fresh.nil _ _) (by simp) (by simp [rs38, lr2]) rfl hf.out
        · have hokT : ok1 L s sz sp d = true := by rw [hokd, ht, hsm]; rfl
          have hx3' := Hide.mk hx3
          have d3' := Hide.mk d3
          clear hok1f hx d0 x1 x2 x3 hx2 hx3 d2 d3 hokd hSZ hr3 hxi hyi hxi2 hq3 a2
          replace hokT := Hide.mk hokT
          repeat' (first | apply goSeq | apply goReg | apply goSeqN | apply goSeqR | apply goSkip | apply goRet | apply goNil | apply goBlock | apply goExit | apply goBlkN | apply goBlkR | apply goBlkE | apply goSeqE | apply goLoopR | apply goLoopE | refine xOp ?_ | refine xOp0 ?_ | refine xYes ?_ | refine xNo ?_ | refine xNoU ?_ | refine xIfT ?_ | refine xIfF ?_ | refine xIf ?_ ?_ | refine xSplit ?_ ?_ | refine xIfQ ?_ ?_ | refine xSplitQ ?_ ?_ | refine xBlkX ?_ | intro _)
          apply goDrw
          iterate 4 (apply goTOp; (· (simp [*]; try exact rfl)); (· exact rfl))
          iterate 9 (apply goTYes; (· (simp [*]; done)); (· (simp [*]; try exact rfl)); (· exact rfl))
          apply goTOp; (· (simp [*]; try exact rfl)); (· exact rfl)
          refine goTNil (by simp [again, XG, XG_none, get, l2, l2']) ?_
          repeat' (first | apply goSeq | apply goReg | apply goSeqN | apply goSeqR | apply goSkip | apply goRet | apply goNil | apply goBlock | apply goExit | apply goBlkN | apply goBlkR | apply goBlkE | apply goSeqE | apply goLoopR | apply goLoopE | refine xOp ?_ | refine xOp0 ?_ | refine xYes ?_ | refine xNo ?_ | refine xNoU ?_ | refine xIfT ?_ | refine xIfF ?_ | refine xIf ?_ ?_ | refine xSplit ?_ ?_ | refine xIfQ ?_ ?_ | refine xSplitQ ?_ ?_ | refine xBlkX ?_ | intro _)
          refine goLoopN (L.length - (d + 1)) (by omega) ⟨d + 1, rfl, by omega, rfl, rfl, rfl, rfl, rfl, rfl, rfl, rfl, hx3'.out, d3'.out, ?_⟩
          intro j hj
          by_cases hjd : j = d
          · subst hjd; exact hokT.out
          · exact hok.out j (by omega)
    have hdn' : ¬ (d : Int) < L.length := by omega
    have hok1 : allN (ok1 L s sz sp) L.length = true := (allN_iff _ _).2 fun j hj => hok.out j (by omega)
    clear hok hmm hd hw1 hd0
    replace hok1 := Hide.mk hok1
    replace hx := Hide.mk hx
    replace d0 := Hide.mk d0
    repeat' (first | apply goSeq | apply goReg | apply goSeqN | apply goSeqR | apply goSkip | apply goRet | apply goNil | apply goBlock | apply goExit | apply goBlkN | apply goBlkR | apply goBlkE | apply goSeqE | apply goLoopR | apply goLoopE | refine xOp ?_ | refine xOp0 ?_ | refine xYes ?_ | refine xNo ?_ | refine xNoU ?_ | refine xIfT ?_ | refine xIfF ?_ | refine xIf ?_ ?_ | refine xSplit ?_ ?_ | refine xIfQ ?_ ?_ | refine xSplitQ ?_ ?_ | refine xBlkX ?_ | intro _)
    clear hdn' hdn
    -- are copies the same?
    refine goLoop (fun m s1 G2 => ∃ d : Nat, m = L.length - d ∧ d ≤ L.length ∧ get s1 0 = lv ∧ get s1 1 = sv ∧ get s1 2 = av ∧ get s1 3 = bv ∧ get s1 8 = .ptr p0 q0 0 ∧ get s1 69 = lv ∧ get s1 70 = .int .i64 L.length ∧ get s1 71 = .int .i64 d ∧ Ext H G2 ∧ OwnC H G2 p0 q0 [.nilS, .nilS] ∧ ∀ j, j < d → ok2 L sz sp j = true) L.length ?_ ?_
    · exact ⟨0, rfl, Nat.zero_le _, rfl, rfl, rfl, rfl, rfl, rfl, rfl, rfl, hx.out, d0.out, by intro j h; omega⟩
    clear hx d0
    rintro m2 s2 G2 ⟨e, hmm, he, g1, g2, g3, g4, g5, g6, g7, g8, hx, d0, hok⟩
    simp only [cut_cons, cut_nil, g1, g2, g3, g4, g5, g6, g7, g8]
    clear g1 g2 g3 g4 g5 g6 g7 g8
    have he0 : (0 : Int) ≤ e := Int.natCast_nonneg e
    have hw1 : w ((e : Int) + 1) = ((e + 1 : Nat) : Int) := w_id (by omega)
    replace hok := Hide.mk hok
    by_cases hen : e < L.length
    · have hen' : (e : Int) < L.length := by omega
      have hread := (tensL_at (tensL_ext hx.pre hL.out)).2.2
      obtain ⟨q, x, y, hq1, hq2, hq3, _⟩ := hread e hen
      obtain ⟨_, _, hag, hxi, hyi⟩ := tens_some hq3
      cases hag
      obtain ⟨hf0, hf1⟩ := first_rng hspOK.out he0 (by omega)
      obtain ⟨f, hf⟩ : ∃ f : Nat, firstL sz sp e = f := ⟨(firstL sz sp e).toNat, by omega⟩
      obtain ⟨qf, xf, yf, hqf1, hqf2, hqf3, _⟩ := hread f (by omega)
      have st1 := st40 (x := x) (y := y) (new_at G2 [.nilS, .nilS]) (ints_one' hxi) (ints_one' hyi)
      have x1 : Ext G2 (G2.new [.nilS, .nilS]) := (Ext.refl hx.wf).new _
      have x2 : Ext G2 ((G2.new [.nilS, .nilS]).put G2.bs.length ⟨G2.c, [x, y], true, true⟩) := put_ext hx.wf x1 (Nat.le_refl _) (new_at _ _)
      have a2 : ((G2.new [.nilS, .nilS]).put G2.bs.length ⟨G2.c, [x, y], true, true⟩).at G2.bs.length G2.c = some ⟨G2.c, [x, y], true, true⟩ := at_put_same (new_at G2 _) rfl
      generalize hG3 : G2.new [.nilS, .nilS] = G3 at *
      generalize hG4 : G3.put G2.bs.length ⟨G2.c, [x, y], true, true⟩ = G4 at *
      have l1 := ld40 a2
      have hx2 := hx.trans x2
      have ht2 := tens_ext x2.pre hq3
      have htf2 := tens_ext x2.pre hqf3
      have d2 := d0.ext x2.pre
      have hlf2 := aload_ext x2.pre hqf2
      have hsz2 := ints_ext hx2.pre hsz.out
      have hsp2 := ints_ext hx2.pre hsp.out
      have hokd : ok2 L sz sp e = sameT (tth L e) (tth L f) := by simp [ok2, hf]
      have hx2' := Hide.mk hx2
      have d2' := Hide.mk d2
      rcases hsm : sameT (tth L e) (tth L f) with _ | _
      · have hne : ¬ allN (ok2 L sz sp) L.length = true := by rw [allN_iff]; intro hh; have := hh e hen; rw [hokd, hsm] at this; cases this
        obtain ⟨st2, lr2, hp2⟩ := err_facts hw hx2 d2
        have hff := fin.out 25 (by simp [joinT, h1, h2, h3, h4, hok1.out, hne])
        replace hff := Hide.mk hff
        clear hx d0 x1 x2 hx2 d2 hokd hxi hyi hq3 a2 hqf2 hqf3 hread hne
        repeat' (first | apply goSeq | apply goReg | apply goSeqN | apply goSeqR | apply goSkip | apply goRet | apply goNil | apply goBlock | apply goExit | apply goBlkN | apply goBlkR | apply goBlkE | apply goSeqE | apply goLoopR | apply goLoopE | refine xOp ?_ | refine xOp0 ?_ | refine xYes ?_ | refine xNo ?_ | refine xNoU ?_ | refine xIfT ?_ | refine xIfF ?_ | refine xIf ?_ ?_ | refine xSplit ?_ ?_ | refine xIfQ ?_ ?_ | refine xSplitQ ?_ ?_ | refine xBlkX ?_ | intro _)
        exact goEndR (vs := [.agg [.nilS, .nilS], .int .i64 25]) (bs := []) (d := H.c) (t := zeroT 25) hw hp2.out.pre (rep_zero _ _ _) (Fresh.nil _ _) (by simp) (by simp [rs38, lr2]) rfl hff.out
      · rw [hsm] at hokd
        replace hokd := Hide.mk hokd
        clear hx d0 x1 x2 hx2 d2 hxi hyi hq3 a2 hqf2 hqf3 hread
        repeat' (first | apply goSeq | apply goReg | apply goSeqN | apply goSeqR | apply goSkip | apply goRet | apply goNil | apply goBlock | apply goExit | apply goBlkN | apply goBlkR | apply goBlkE | apply goSeqE | apply goLoopR | apply goLoopE | refine xOp ?_ | refine xOp0 ?_ | refine xYes ?_ | refine xNo ?_ | refine xNoU ?_ | refine xIfT ?_ | refine xIfF ?_ | refine xIf ?_ ?_ | refine xSplit ?_ ?_ | refine xIfQ ?_ ?_ | refine xSplitQ ?_ ?_ | refine xBlkX ?_ | intro _)
        refine goLoopN (L.length - (e + 1)) (by omega) ⟨e + 1, rfl, by omega, rfl, rfl, rfl, rfl, rfl, rfl, rfl, rfl, hx2'.out, d2'.out, ?_⟩
        intro j hj
        by_cases hjd : j = e
        · subst hjd; exact hokd.out
        · exact hok.out j (by omega)
    have hen' : ¬ (e : Int) < L.length := by omega
    have hok2 : allN (ok2 L sz sp) L.length = true := (allN_iff _ _).2 fun j hj => hok.out j (by omega)
    clear hok hmm he hw1 he0
    replace hok2 := Hide.mk hok2
    have hq0G : q0 < G2.c := at_lt hx.wf d0.at'
    -- the whole
    replace hmax := hmax h2
    have hm0 : madeL (fun _ => 0) s = List.replicate (sizeOf s).toNat 0 := by
      apply List.ext_getElem
      · simp [madeL_len]
      · intro j _ _; simp [madeL]
    have e94 : F94 [sv, .int .i64 0] G2 = some (mk (okTn (clT sv s) (trF (List.replicate (sizeOf s).toNat 0))) G2) := by
      show (ints G2 sv).bind _ = _
      rw [ints_ext hx.pre hs.out, Option.bind_some, if_pos ⟨hmt, hmax⟩]
      simp only [fillT, h2, if_true, hm0]
    have hsle := sizeOf_le s
    have hsge := sizeOf_nonneg s
    obtain ⟨N, hN⟩ : ∃ N : Nat, sizeOf s = N := ⟨(sizeOf s).toNat, by omega⟩
    rw [mk_okTn] at e94
    have hcl := clT_is (ints_ext hx.pre hs.out)
    have hokc := hcl.ok 0
    obtain ⟨bt, r1, f1, x1, t1⟩ := mk_tens (H := G2) hx.wf (a := clT sv s) (b := trF (List.replicate (sizeOf s).toNat 0)) hcl (.inr (.inl rfl)) (by omega) (by simp; omega)
    have hres : joinT sv L s sz sp = okTn (clT sv s) (trF (joinD L s sz sp)) := by simp [joinT, h1, h2, h3, h4, hok1.out, hok2.out]
    replace hvv := hvv.out
    rw [hres] at hvv
    replace hvv := Hide.mk hvv
    generalize hDD : joinD L s sz sp = DD at *
    have hD0 : ja L s sz sp L.length (List.replicate (sizeOf s).toNat 0) = DD := hDD
    rw [hN] at hD0
    simp only [hN, Int.toNat_natCast] at e94 r1 f1 x1 t1 hD0
    generalize hr1 : mk (.agg [clT sv s, trF (List.replicate N 0)]) G2 = tt at *
    obtain ⟨tv, GB⟩ := tt
    simp only at r1 f1 x1 t1 e94
    obtain ⟨shv, dav, b1, b2, rfl, rs1, rd1, hbt⟩ := rep_agg2.1 r1
    obtain ⟨_, _, hag, hsi, hdi⟩ := tens_some t1
    cases hag
    have hone := ints_one' hsi
    have hone2 := ints_one' hdi
    have a3 := new_at GB [.nilS, .nilS]
    have x3 : Ext GB (GB.new [.nilS, .nilS]) := (Ext.refl x1.wf).new _
    have st3 := st40 (x := shv) (y := dav) a3 hone hone2
    have x4 : Ext GB ((GB.new [.nilS, .nilS]).put GB.bs.length ⟨GB.c, [shv, dav], true, true⟩) := put_ext x1.wf x3 (Nat.le_refl _) a3
    have d4 : OwnC GB ((GB.new [.nilS, .nilS]).put GB.bs.length ⟨GB.c, [shv, dav], true, true⟩) GB.bs.length GB.c [shv, dav] := ⟨Nat.le_refl _, at_put_same a3 rfl⟩
    have hq4lt : GB.c < ((GB.new [.nilS, .nilS]).put GB.bs.length ⟨GB.c, [shv, dav], true, true⟩).c := Nat.lt_succ_self _
    generalize hG3 : GB.new [.nilS, .nilS] = G3 at *
    generalize hp4 : GB.bs.length = p4 at *
    generalize hq4 : GB.c = q4 at *
    generalize hGC : G3.put p4 ⟨q4, [shv, dav], true, true⟩ = GC at *
    have hxC := (hx.trans x1).trans x4
    have d0C := (d0.ext x1.pre).ext x4.pre
    have rsC := rs1.ext x4.pre
    have rdC := rd1.ext x4.pre
    have hGq : G2.c ≤ q4 := by have := x1.c; omega
    have hd12 := hbt ▸ f1
    clear r1 t1 hsi hdi rs1 rd1 x1 x3 x4 hx d0 a3 hm0 hDD
    replace hxC := Hide.mk hxC
    replace d0C := Hide.mk d0C
    replace rsC := Hide.mk rsC
    replace rdC := Hide.mk rdC
    replace d4 := Hide.mk d4
    replace hd12 := Hide.mk hd12
    replace f1 := Hide.mk f1
    replace hD0 := Hide.mk hD0
    have hres := Hide.mk hres
    repeat' (first | apply goSeq | apply goReg | apply goSeqN | apply goSeqR | apply goSkip | apply goRet | apply goNil | apply goBlock | apply goExit | apply goBlkN | apply goBlkR | apply goBlkE | apply goSeqE | apply goLoopR | apply goLoopE | refine xOp ?_ | refine xOp0 ?_ | refine xYes ?_ | refine xNo ?_ | refine xNoU ?_ | refine xIfT ?_ | refine xIfF ?_ | refine xIf ?_ ?_ | refine xSplit ?_ ?_ | refine xIfQ ?_ ?_ | refine xSplitQ ?_ ?_ | refine xBlkX ?_ | intro _)
    clear e94 st3 hG3 hp4 hGC hr1
    have hjl : ∀ d, (ja L s sz sp d (List.replicate N 0)).length = N := fun d => by rw [ja_len]; simp
    refine goLoop (fun m s1 K => ∃ d : Nat, m = L.length - d ∧ d ≤ L.length ∧ get s1 1 = sv ∧ get s1 2 = av ∧ get s1 3 = bv ∧ get s1 8 = .ptr p0 q0 0 ∧ get s1 14 = .ptr p4 q4 0 ∧ get s1 15 = .int .i64 0 ∧ get s1 93 = lv ∧ get s1 94 = .int .i64 L.length ∧ get s1 95 = .int .i64 d ∧ Ext H K ∧ q4 < K.c ∧ OwnC H K p0 q0 [.nilS, .nilS] ∧ OwnC GB K p4 q4 [shv, dav] ∧ Rep G2.c K (clT sv s) shv b1 ∧ Rep G2.c K (trF (ja L s sz sp d (List.replicate N 0))) dav b2) L.length ?_ ?_
    · exact ⟨0, rfl, Nat.zero_le _, rfl, rfl, rfl, rfl, rfl, rfl, rfl, rfl, rfl, hxC.out, hq4lt, d0C.out, d4.out, rsC.out, rdC.out⟩
    clear hxC d0C d4 rsC rdC hq4lt
    rintro m3 s3 K ⟨g, hmm, hg, g1, g2, g3, g4, g5, g6, g7, g8, g9, hx, hq4K, d0, d4, hrs, hrd⟩
    simp only [cut_cons, cut_nil, g1, g2, g3, g4, g5, g6, g7, g8, g9]
    clear g1 g2 g3 g4 g5 g6 g7 g8 g9
    have hg0 : (0 : Int) ≤ g := Int.natCast_nonneg g
    have hw1 : w ((g : Int) + 1) = ((g + 1 : Nat) : Int) := w_id (by omega)
    by_cases hgn : g < L.length
    · have hgn' : (g : Int) < L.length := by omega
      have hokg : tOK (tth L g) = true ∧ (tth L g).1 = sizeL s sz sp g := by
        have := (allN_iff _ _).1 hok1.out g hgn
        simp only [ok1, Bool.and_eq_true] at this
        exact ⟨this.1, sameL_eq this.2⟩
      have hmay : mayCut s sz sp g := ⟨h2, h3, hg0, by omega⟩
      obtain ⟨hfl, hzl, hrng⟩ := part_rng hmay
      have hshz : shapeOK (sizeL s sz sp g) = true := by
        have := hokg.1; simp only [tOK, Bool.and_eq_true] at this; rw [← hokg.2]; exact this.1
      have hdl : ((tth L g).2.length : Int) = sizeOf (sizeL s sz sp g) := by
        have := hokg.1; simp only [tOK, Bool.and_eq_true, decide_eq_true_eq] at this; rw [← hokg.2]; exact this.2
      have hwh := fun (i : Int) (h0 : 0 ≤ i) (h1 : i < sizeOf (sizeL s sz sp g)) => whole_in hmay hshz h0 h1
      have hjs : ja L s sz sp (g + 1) (List.replicate N 0) = jd s (fromL s sz sp g) (tth L g).1 (tth L g).2 (tth L g).2.length (ja L s sz sp g (List.replicate N 0)) := rfl
      obtain ⟨q, x, y, hr1, hr2H, hr3, _⟩ := (tensL_at hL.out).2.2 g hgn
      have hr2 := aload_ext hx.pre hr2H
      obtain ⟨_, _, hag, hxi, hyi⟩ := tens_some hr3
      cases hag
      rw [hokg.2] at hxi hjs
      have hjlg := hjl g
      generalize hD : ja L s sz sp g (List.replicate N 0) = D at *
      have hs4 : s.length ≤ 4 := (shapeOK_rng h2).1
      -- a copy of the part
      have st1 := st40 (x := x) (y := y) (new_at K [.nilS, .nilS]) (ints_one' hxi) (ints_one' hyi)
      have x1 : Ext K (K.new [.nilS, .nilS]) := (Ext.refl hx.wf).new _
      have x2 : Ext K ((K.new [.nilS, .nilS]).put K.bs.length ⟨K.c, [x, y], true, true⟩) := put_ext hx.wf x1 (Nat.le_refl _) (new_at _ _)
      have d5 : OwnC K ((K.new [.nilS, .nilS]).put K.bs.length ⟨K.c, [x, y], true, true⟩) K.bs.length K.c [x, y] := ⟨Nat.le_refl _, at_put_same (new_at K _) rfl⟩
      have hq5lt : K.c < ((K.new [.nilS, .nilS]).put K.bs.length ⟨K.c, [x, y], true, true⟩).c := Nat.lt_succ_self _
      generalize hK1 : K.new [.nilS, .nilS] = K1 at *
      generalize hK2 : K1.put K.bs.length ⟨K.c, [x, y], true, true⟩ = K2 at *
      have hx2 := hx.trans x2
      -- where it begins
      have e22 : F22 [sv, av, bv, .int .i64 g] K2 = some (mkS K2 (fromL s sz sp g)) := by
        simp only [F22, ints_ext hx2.pre hs.out, ints_ext hx2.pre hsz.out, ints_ext hx2.pre hsp.out, Option.bind_some, Option.map_some]
      have x3 := mkS_ext hx2.wf (fromL s sz sp g)
      obtain ⟨bf, rf, ff⟩ := (mkS_own K2 (fromL s sz sp g)).repS x3.wf
      generalize hFR : fromL s sz sp g = FR at *
      generalize hSZ : sizeL s sz sp g = SZ at *
      generalize hDT : (tth L g).2 = DT at *
      generalize hr4 : mkS K2 FR = r4 at *
      obtain ⟨fv, K3⟩ := r4
      simp only at x3 rf ff
      have x23 := x2.trans x3
      have hx3 := hx2.trans x3
      have d03 := d0.ext x23.pre
      have d43 := d4.ext x23.pre
      have d53 := d5.ext x3.pre
      have hrs3 := hrs.ext x23.pre
      have hrd3 := hrd.ext x23.pre
      have l38 := ld38 d53.at' 1
      simp only [List.getElem?_cons_zero, List.getElem?_cons_succ] at l38
      have hyl := alenS_ints hyi
      rw [← alen38] at hyl
      have hyl' : alen T 38 y = some (.int .i64 DT.length) := hyl
      have hKq : K.c < K3.c := by have := x3.c; omega
      -- x and y came in
      have hDTl : DT.length ≤ 4096 := by have := sizeOf_le SZ; omega
      replace hdl := Hide.mk hdl
      replace hx := Hide.mk hx
      replace x23 := Hide.mk x23
      replace hx3 := Hide.mk hx3
      replace d03 := Hide.mk d03
      replace d43 := Hide.mk d43
      replace d53 := Hide.mk d53
      replace hrs3 := Hide.mk hrs3
      replace hrd3 := Hide.mk hrd3
      replace rf := Hide.mk rf
      replace ff := Hide.mk ff
      replace hwh := Hide.mk hwh
      replace hjs := Hide.mk hjs
      replace hrng := Hide.mk hrng
      replace hxi := Hide.mk hxi
      replace hyi := Hide.mk hyi
      clear hrs hrd d0 d4 d5 x1 x2 x3 hx2 hyl hr3 hokg hmay hr2H
      repeat' (first | apply goSeq | apply goReg | apply goSeqN | apply goSeqR | apply goSkip | apply goRet | apply goNil | apply goBlock | apply goExit | apply goBlkN | apply goBlkR | apply goBlkE | apply goSeqE | apply goLoopR | apply goLoopE | refine xOp ?_ | refine xOp0 ?_ | refine xYes ?_ | refine xNo ?_ | refine xNoU ?_ | refine xIfT ?_ | refine xIfF ?_ | refine xIf ?_ ?_ | refine xSplit ?_ ?_ | refine xIfQ ?_ ?_ | refine xSplitQ ?_ ?_ | refine xBlkX ?_ | intro _)
      clear hr1 hr2 st1 hK1 hK2 e22 hr4 l38 hyl'
      have hq5 : K.c ≤ K2.c := Nat.le_of_lt hq5lt
      generalize hp5 : K.bs.length = p5 at *
      generalize hq5e : K.c = q5 at *
      have hjdl : ∀ i, (jd s FR SZ DT i D).length = N := fun i => by rw [jd_len]; exact hjlg
      refine goLoop (fun m s1 M => ∃ i : Nat, m = DT.length - i ∧ i ≤ DT.length ∧ get s1 1 = sv ∧ get s1 2 = av ∧ get s1 3 = bv ∧ get s1 8 = .ptr p0 q0 0 ∧ get s1 14 = .ptr p4 q4 0 ∧ get s1 15 = .int .i64 0 ∧ get s1 17 = .ptr p5 q5 0 ∧ get s1 18 = fv ∧ get s1 93 = lv ∧ get s1 94 = .int .i64 L.length ∧ get s1 95 = .int .i64 g ∧ get s1 106 = y ∧ get s1 107 = .int .i64 DT.length ∧ get s1 108 = .int .i64 i ∧ Ext H M ∧ K3.c ≤ M.c ∧ OwnC H M p0 q0 [.nilS, .nilS] ∧ OwnC GB M p4 q4 [shv, dav] ∧ OwnC K M p5 q5 [x, y] ∧ Rep G2.c M (clT sv s) shv b1 ∧ Rep G2.c M (trF (jd s FR SZ DT i D)) dav b2 ∧ Rep K2.c M (trS FR) fv bf) DT.length ?_ ?_
      · exact ⟨0, rfl, Nat.zero_le _, rfl, rfl, rfl, rfl, rfl, rfl, rfl, rfl, rfl, rfl, rfl, rfl, rfl, rfl, hx3.out, Nat.le_refl _, d03.out, d43.out, d53.out, hrs3.out, hrd3.out, rf.out⟩
      clear d03 d43 d53 hrs3 hrd3 rf hx3
      rintro m4 s4 M ⟨i, hmm4, hi, g1, g2, g3, g4, g5, g6, g7, g8, g9, g10, g11, g12, g13, g14, hxM, hcM, d0, d4, d5, hrs, hrd, rf⟩
      simp only [cut_cons, cut_nil, g1, g2, g3, g4, g5, g6, g7, g8, g9, g10, g11, g12, g13, g14]
      clear g1 g2 g3 g4 g5 g6 g7 g8 g9 g10 g11 g12 g13 g14
      have hi0 : (0 : Int) ≤ i := Int.natCast_nonneg i
      have hw2 : w ((i : Int) + 1) = ((i + 1 : Nat) : Int) := w_id (by omega)
      by_cases hin : i < DT.length
      · have hin' : (i : Int) < DT.length := by omega
        have hyM := ints_ext hxM.pre hyi.out
        have hxiM := ints_ext hxM.pre hxi.out
        have hixy : aidx T 38 y (.int .i64 i) = some (pAt y i) := by
          rw [aidx38, aidxS_ints hyM .i64 i, if_pos ⟨hi0, hin'⟩]
        have hldy : aload T 2 (pAt y i) M = some (.int .i64 (nth DT i)) := aload_nth T2 rfl hyM i hi0 hin'
        have l22 := ld22 d5.at' 0
        simp only [List.getElem?_cons_zero] at l22
        have e95 : F95 [x, .int .i64 i] M = some (mkF M (meshAt SZ i)) := by
          simp only [F95, hxiM, Option.map_some]
          rw [if_neg (by have := hdl.out; omega)]
        have xm := mkF_ext hxM.wf (meshAt SZ i)
        have hml := meshAt_len SZ i
        have hmli : (meshAt SZ i).length = s.length := by rw [hml, hzl]
        have hjd : jd s FR SZ DT (i + 1) D = (jd s FR SZ DT i D).set (idxL s (addL (meshAt SZ i) FR)).toNat (nth DT i) := rfl
        have hwi := hwh.out i hi0 (by have := hdl.out; omega)
        generalize hP : meshAt SZ i = P at *
        have hmk : (mkF M P).1 = .sl M.bs.length M.c 0 s.length 1 true := by simp [mkF, hmli]
        have rp : Rep M.c (mkF M P).2 (trF P) (mkF M P).1 [(M.bs.length, M.c)] := rep_F.2 ⟨_, _, rfl, Nat.le_refl _, new_at _ _, rfl⟩
        have hpM : M.c < (mkF M P).2.c := Nat.lt_succ_self _
        generalize hr5 : mkF M P = r5 at *
        obtain ⟨pl, M1⟩ := r5
        simp only at xm hmk rp hpM
        have hlp : alen T 22 pl = some (.int .i64 s.length) := by rw [alen22, hmk]; rfl
        have hxM1 := hxM.trans xm
        have d01 := d0.ext xm.pre
        have d41 := d4.ext xm.pre
        have d51 := d5.ext xm.pre
        have hrs1 := hrs.ext xm.pre
        have hrd1 := hrd.ext xm.pre
        have rf1 := rf.ext xm.pre
        generalize hpb : M.bs.length = pb at *
        generalize hpv : M.c = pv at *
        replace hxM := Hide.mk hxM
        replace hxM1 := Hide.mk hxM1
        replace xm := Hide.mk xm
        replace d01 := Hide.mk d01
        replace d41 := Hide.mk d41
        replace d51 := Hide.mk d51
        replace hrs1 := Hide.mk hrs1
        replace hrd1 := Hide.mk hrd1
        replace rf1 := Hide.mk rf1
        replace rp := Hide.mk rp
        replace hjd := Hide.mk hjd
        replace hwi := Hide.mk hwi
        have hmkh := Hide.mk hmk
        replace hP := Hide.mk hP
        clear d0 d4 d5 hrs hrd rf hyM hxiM hmk
        repeat' (first | apply goSeq | apply goReg | apply goSeqN | apply goSeqR | apply goSkip | apply goRet | apply goNil | apply goBlock | apply goExit | apply goBlkN | apply goBlkR | apply goBlkE | apply goSeqE | apply goLoopR | apply goLoopE | refine xOp ?_ | refine xOp0 ?_ | refine xYes ?_ | refine xNo ?_ | refine xNoU ?_ | refine xIfT ?_ | refine xIfF ?_ | refine xIf ?_ ?_ | refine xSplit ?_ ?_ | refine xIfQ ?_ ?_ | refine xSplitQ ?_ ?_ | refine xBlkX ?_ | intro _)
        clear hixy hldy l22 e95 hr5 hlp
        refine goLoop (fun m s1 Q => ∃ k : Nat, m = s.length - k ∧ k ≤ s.length ∧ get s1 1 = sv ∧ get s1 2 = av ∧ get s1 3 = bv ∧ get s1 8 = .ptr p0 q0 0 ∧ get s1 14 = .ptr p4 q4 0 ∧ get s1 15 = .int .i64 0 ∧ get s1 17 = .ptr p5 q5 0 ∧ get s1 18 = fv ∧ get s1 20 = .int .i64 (nth DT i) ∧ get s1 21 = pl ∧ get s1 93 = lv ∧ get s1 94 = .int .i64 L.length ∧ get s1 95 = .int .i64 g ∧ get s1 106 = y ∧ get s1 107 = .int .i64 DT.length ∧ get s1 108 = .int .i64 i ∧ get s1 118 = .int .i64 s.length ∧ get s1 119 = .int .i64 k ∧ Ext H Q ∧ pv ≤ Q.c ∧ OwnC H Q p0 q0 [.nilS, .nilS] ∧ OwnC GB Q p4 q4 [shv, dav] ∧ OwnC K Q p5 q5 [x, y] ∧ Rep G2.c Q (clT sv s) shv b1 ∧ Rep G2.c Q (trF (jd s FR SZ DT i D)) dav b2 ∧ Rep K2.c Q (trS FR) fv bf ∧ Rep pv Q (trF (addL (P.take k) (FR.take k) ++ P.drop k)) pl [(pb, pv)]) s.length ?_ ?_
        · exact ⟨0, rfl, Nat.zero_le _, rfl, rfl, rfl, rfl, rfl, rfl, rfl, rfl, rfl, rfl, rfl, rfl, rfl, rfl, rfl, rfl, rfl, rfl, hxM1.out, Nat.le_of_lt hpM, d01.out, d41.out, d51.out, hrs1.out, hrd1.out, rf1.out, by simpa [addL] using rp.out⟩
        clear d01 d41 d51 hrs1 hrd1 rf1 rp hxM1
        rintro m5 s5 Q ⟨k, hmm5, hk, g1, g2, g3, g4, g5, g6, g7, g8, g9, g10, g11, g12, g13, g14, g15, g16, g17, g18, hxQ, hcQ, d0, d4, d5, hrs, hrd, rf, rp⟩
        simp only [cut_cons, cut_nil, g1, g2, g3, g4, g5, g6, g7, g8, g9, g10, g11, g12, g13, g14, g15, g16, g17, g18]
        clear g1 g2 g3 g4 g5 g6 g7 g8 g9 g10 g11 g12 g13 g14 g15 g16 g17 g18
        have hk0 : (0 : Int) ≤ k := Int.natCast_nonneg k
        have hw3 : w ((k : Int) + 1) = ((k + 1 : Nat) : Int) := w_id (by omega)
        have hcl : (addL (P.take k) (FR.take k) ++ P.drop k).length = s.length := by simp [addL_len]; omega
        have hq0p : q0 ≠ pv := by omega
        have hq4p : q4 ≠ pv := by omega
        have hq5p : q5 ≠ pv := by omega
        have hb1p : ∀ p ∈ b1, p ≠ (pb, pv) := fun p hp e => by have := (hd12.out.2 p (by simp [hp])).2; rw [e] at this; simp only at this; omega
        have hb2p : ∀ p ∈ b2, p ≠ (pb, pv) := fun p hp e => by have := (hd12.out.2 p (by simp [hp])).2; rw [e] at this; simp only at this; omega
        have hbfp : ∀ p ∈ bf, p ≠ (pb, pv) := fun p hp e => by have := (ff.out.2 p hp).2; rw [e] at this; simp only at this; omega
        by_cases hks : k < s.length
        · have hks' : (k : Int) < s.length := by omega
          have hpi := isL.ints (.inr (.inl rfl)) (by omega) rp
          have hfi := isL.ints (.inl rfl) (by omega) rf
          have hixp : aidx T 22 pl (.int .i64 k) = some (pAt pl k) := by
            rw [aidx22, aidxS_ints hpi .i64 k, if_pos (by omega)]
          have hldp : aload T 3 (pAt pl k) Q = some (.int .i64 (nth P k)) := by
            rw [aload_nth T3 rfl hpi k hk0 (by omega), nth_addL P FR k (by omega)]
          have hixf : aidx T 22 fv (.int .i64 k) = some (pAt fv k) := by
            rw [aidx22, aidxS_ints hfi .i64 k, if_pos (by omega)]
          have hldf : aload T 3 (pAt fv k) Q = some (.int .i64 (nth FR k)) := aload_nth T3 rfl hfi k hk0 (by omega)
          rw [← trF_B] at rp
          obtain ⟨Q2, e3, rp2, k3, x5, c5⟩ := rep_store (.inl rfl) rp k (by omega) (w (nth P k + nth FR k))
          rw [addL_take P FR k (by omega) (by omega), trF_B] at rp2
          have d02 := d0.keep (k3 p0 q0 (fun hm => hq0p (by simpa using congrArg Prod.snd (List.mem_singleton.1 hm))))
          have d42 := d4.keep (k3 p4 q4 (fun hm => hq4p (by simpa using congrArg Prod.snd (List.mem_singleton.1 hm))))
          have d52 := d5.keep (k3 p5 q5 (fun hm => hq5p (by simpa using congrArg Prod.snd (List.mem_singleton.1 hm))))
          have hrs2 := Rep.keep _ (fun p hp => k3 p.1 p.2 (fun hm => hb1p p hp (List.mem_singleton.1 hm))) hrs
          have hrd2 := Rep.keep _ (fun p hp => k3 p.1 p.2 (fun hm => hb2p p hp (List.mem_singleton.1 hm))) hrd
          have rf2 := Rep.keep _ (fun p hp => k3 p.1 p.2 (fun hm => hbfp p hp (List.mem_singleton.1 hm))) rf
          have hxQ2 := x5 H hw hxQ (by have := hxM.out.c; omega)
          have hcQ2 : pv ≤ Q2.c := by rw [c5]; exact hcQ
          replace hxQ2 := Hide.mk hxQ2
          replace d02 := Hide.mk d02
          replace d42 := Hide.mk d42
          replace d52 := Hide.mk d52
          replace hrs2 := Hide.mk hrs2
          replace hrd2 := Hide.mk hrd2
          replace rf2 := Hide.mk rf2
          replace rp2 := Hide.mk rp2
          clear d0 d4 d5 hrs hrd rf rp hpi hfi k3 x5 c5 hxQ hb1p hb2p hbfp hq0p hq4p hq5p hcl
          repeat' (first | apply goSeq | apply goReg | apply goSeqN | apply goSeqR | apply goSkip | apply goRet | apply goNil | apply goBlock | apply goExit | apply goBlkN | apply goBlkR | apply goBlkE | apply goSeqE | apply goLoopR | apply goLoopE | refine xOp ?_ | refine xOp0 ?_ | refine xYes ?_ | refine xNo ?_ | refine xNoU ?_ | refine xIfT ?_ | refine xIfF ?_ | refine xIf ?_ ?_ | refine xSplit ?_ ?_ | refine xIfQ ?_ ?_ | refine xSplitQ ?_ ?_ | refine xBlkX ?_ | intro _)
          exact goLoopN (s.length - (k + 1)) (by omega) ⟨k + 1, rfl, by omega, rfl, rfl, rfl, rfl, rfl, rfl, rfl, rfl, rfl, rfl, rfl, rfl, rfl, rfl, rfl, rfl, rfl, rfl, hxQ2.out, hcQ2, d02.out, d42.out, d52.out, hrs2.out, hrd2.out, rf2.out, rp2.out⟩
        · have hks' : ¬ (k : Int) < s.length := by omega
          have hkE : k = s.length := by omega
          subst hkE
          have hPl : P.length = s.length := by omega
          have hall : addL (P.take s.length) (FR.take s.length) ++ P.drop s.length = addL P FR := by
            rw [List.take_of_length_le (by omega), List.take_of_length_le (by omega), List.drop_of_length_le (by omega), List.append_nil]
          rw [hall] at rp
          have hai := isL.ints (.inr (.inl rfl)) (by rw [addL_len]; omega) rp
          have hsQ := ints_ext hxQ.pre hs.out
          have hii := idxL_in h2 (by rw [addL_len]; exact hPl) (fun j hj => (hwi.out j hj).2)
          obtain ⟨ix, hix⟩ : ∃ ix : Nat, idxL s (addL P FR) = ix := ⟨(idxL s (addL P FR)).toNat, by omega⟩
          have e96 : F96 [sv, pl] Q = some (.int .i64 ix) := by
            simp only [F96, hsQ, hai, Option.bind_some, Option.map_some, hix]
          have l38 := ld38 d4.at' 1
          simp only [List.getElem?_cons_zero, List.getElem?_cons_succ] at l38
          have hdi := isL.ints (.inr (.inl rfl)) (by rw [hjdl]; omega) hrd
          have hixd : aidx T 38 dav (.int .i64 ix) = some (pAt dav ix) := by
            rw [aidx38, aidxS_ints hdi .i64 ix, if_pos (by rw [hjdl]; omega)]
          rw [← trF_B] at hrd
          obtain ⟨Q2, e3, rd2, k3, x5, c5⟩ := rep_store (.inr rfl) hrd ix (by rw [hjdl]; omega) (nth DT i)
          have hjd' := hjd.out
          rw [hix, Int.toNat_natCast] at hjd'
          rw [← hjd', trF_B] at rd2
          have hnd := List.nodup_append.1 hd12.out.1
          have d02 := d0.keep (k3 p0 q0 (fun hm => by have := (hd12.out.2 _ (List.mem_append_right b1 hm)).1; simp only at this; omega))
          have d42 := d4.keep (k3 p4 q4 (fun hm => by have := (hd12.out.2 _ (List.mem_append_right b1 hm)).2; simp only at this; omega))
          have d52 := d5.keep (k3 p5 q5 (fun hm => by have := (hd12.out.2 _ (List.mem_append_right b1 hm)).2; simp only at this; omega))
          have hrs2 := Rep.keep _ (fun p hp => k3 p.1 p.2 (fun hm => hnd.2.2 p hp p hm rfl)) hrs
          have rf2 := Rep.keep _ (fun p hp => k3 p.1 p.2 (fun hm => by have := (hd12.out.2 _ (List.mem_append_right b1 hm)).2; have := (ff.out.2 p hp).1; simp only at *; omega)) rf
          have hxQ2 := x5 H hw hxQ (by omega)
          have hcQ2 : K3.c ≤ Q2.c := by rw [c5]; omega
          replace hxQ2 := Hide.mk hxQ2
          replace d02 := Hide.mk d02
          replace d42 := Hide.mk d42
          replace d52 := Hide.mk d52
          replace hrs2 := Hide.mk hrs2
          replace rd2 := Hide.mk rd2
          replace rf2 := Hide.mk rf2
          clear d0 d4 d5 hrs hrd rf rp hai hdi k3 x5 c5 hxQ hb1p hb2p hbfp hq0p hq4p hq5p hcl hall hPl hii hnd hsQ hjd' hjd
          replace hix := Hide.mk hix
          repeat' (first | apply goSeq | apply goReg | apply goSeqN | apply goSeqR | apply goSkip | apply goRet | apply goNil | apply goBlock | apply goExit | apply goBlkN | apply goBlkR | apply goBlkE | apply goSeqE | apply goLoopR | apply goLoopE | refine xOp ?_ | refine xOp0 ?_ | refine xYes ?_ | refine xNo ?_ | refine xNoU ?_ | refine xIfT ?_ | refine xIfF ?_ | refine xIf ?_ ?_ | refine xSplit ?_ ?_ | refine xIfQ ?_ ?_ | refine xSplitQ ?_ ?_ | refine xBlkX ?_ | intro _)
          exact goLoopN (DT.length - (i + 1)) (by omega) ⟨i + 1, rfl, by omega, rfl, rfl, rfl, rfl, rfl, rfl, rfl, rfl, rfl, rfl, rfl, rfl, rfl, rfl, hxQ2.out, hcQ2, d02.out, d42.out, d52.out, hrs2.out, rd2.out, rf2.out⟩
      · have hin' : ¬ (i : Int) < DT.length := by omega
        have hiE : i = DT.length := by omega
        subst hiE
        rw [← hjs.out] at hrd
        replace hxM := Hide.mk hxM
        replace d0 := Hide.mk d0
        replace d4 := Hide.mk d4
        replace d5 := Hide.mk d5
        replace hrs := Hide.mk hrs
        replace hrd := Hide.mk hrd
        replace rf := Hide.mk rf
        repeat' (first | apply goSeq | apply goReg | apply goSeqN | apply goSeqR | apply goSkip | apply goRet | apply goNil | apply goBlock | apply goExit | apply goBlkN | apply goBlkR | apply goBlkE | apply goSeqE | apply goLoopR | apply goLoopE | refine xOp ?_ | refine xOp0 ?_ | refine xYes ?_ | refine xNo ?_ | refine xNoU ?_ | refine xIfT ?_ | refine xIfF ?_ | refine xIf ?_ ?_ | refine xSplit ?_ ?_ | refine xIfQ ?_ ?_ | refine xSplitQ ?_ ?_ | refine xBlkX ?_ | intro _)
        exact goLoopN (L.length - (g + 1)) (by omega) ⟨g + 1, rfl, by omega, rfl, rfl, rfl, rfl, rfl, rfl, rfl, rfl, rfl, hxM.out, by omega, d0.out, d4.out, hrs.out, hrd.out⟩
    have hgn' : ¬ (g : Int) < L.length := by omega
    have hgE : g = L.length := by omega
    subst hgE
    rw [hD0.out] at hrd
    have lr4 := ld40 d4.at'
    have d0' := d0.at'
    have st := st40 (x := shv) (y := dav) d0' hone hone2
    have hkp : ∀ b' ver', ver' ≠ q0 → Keeps K (K.put p0 ⟨q0, [shv, dav], true, true⟩) b' ver' := fun b' ver' h => Keeps.put d0' h
    have lr := ld40 (at_put_same (k' := ⟨q0, [shv, dav], true, true⟩) d0' rfl)
    have hp := put_ext (cs := [shv, dav]) hw hx hHc d0'
    replace d0 := Hide.mk d0
    replace d4 := Hide.mk d4
    replace d0' := Hide.mk d0'
    replace hkp := Hide.mk hkp
    replace hx := Hide.mk hx
    replace hrs := Hide.mk hrs
    replace hrd := Hide.mk hrd
    replace hp := Hide.mk hp
    repeat' (first | apply goSeq | apply goReg | apply goSeqN | apply goSeqR | apply goSkip | apply goRet | apply goNil | apply goBlock | apply goExit | apply goBlkN | apply goBlkR | apply goBlkE | apply goSeqE | apply goLoopR | apply goLoopE | refine xOp ?_ | refine xOp0 ?_ | refine xYes ?_ | refine xNo ?_ | refine xNoU ?_ | refine xIfT ?_ | refine xIfF ?_ | refine xIf ?_ ?_ | refine xSplit ?_ ?_ | refine xIfQ ?_ ?_ | refine xSplitQ ?_ ?_ | refine xBlkX ?_ | intro _)
    have hlo : ∀ p ∈ b1 ++ b2, p.2 ≠ q0 := fun p hp => by have := (hd12.out.2 p hp).1; omega
    refine goEndR (vs := [.agg [shv, dav], .int .i64 0]) (bs := b1 ++ b2) (d := q4) (t := okTn (clT sv s) (trF DD)) hw hp.out.pre ?_ ?_ (by simp) (by simp [rs38, lr]) rfl hvv.out
    · unfold okTn
      show Rep _ _ _ (AV.tup [_, _]) _
      rw [rep_tupI]
      refine rep_agg2.2 ⟨shv, dav, b1, b2, rfl, ?_, ?_, rfl⟩
      · exact rep_down _ (c0 := 0) hokc (Nat.zero_le _) (by omega) (Rep.keep _ (fun p hp => hkp.out p.1 p.2 (hlo p (by simp [hp]))) hrs.out)
      · exact rep_down _ (c0 := 0) (okT_F 0 _) (Nat.zero_le _) (by omega) (Rep.keep _ (fun p hp => hkp.out p.1 p.2 (hlo p (by simp [hp]))) hrd.out)
    · exact hd12.out.wide (by omega) (Nat.le_refl _)
  · cases hv
/- Walks: a tensor, a mesh and a spec of a tape. -/
theorem Fresh.perm {c d : Nat} {a b : List (Nat × Nat)} (h : Fresh c d a) (p : a.Perm b) : Fresh c d b := ⟨p.nodup_iff.1 h.1, fun q hq => h.2 q (p.mem_iff.2 hq)⟩
def seven : List (List Int) := [[2], [2, 4], [3, 2], [2, 2, 2], [], [5], [2, 2]]
theorem litH_rep : ∀ (L : List (List Int)) {H : Hp}, Wf H → ∀ k : Nat, k < L.length → ∃ m b ver, (litH H L).1[k]? = some (.sl b ver 0 m.length 1 true) ∧ L[k]? = some m ∧ (litH H L).2.at b ver = some ⟨ver, m.map (.int .i64), true, true⟩ ∧ H.bs.length ≤ b ∧ H.c ≤ ver ∧ ver < (litH H L).2.c := by
  intro L
  induction L with
  | nil => intro H _ k hk; simp at hk
  | cons l L ih =>
    intro H hw k hk
    cases k with
    | zero =>
      refine ⟨l, _, _, rfl, rfl, (litH_ext L (hw.new _)).pre.at (new_at _ _), Nat.le_refl _, Nat.le_refl _, ?_⟩
      have := (litH_ext L (hw.new (l.map (.int .i64)))).c
      rw [new_c] at this
      show H.c < (litH _ L).2.c
      omega
    | succ k =>
      obtain ⟨m, b, ver, h1, h2, h3, h4, h5, h6⟩ := ih (hw.new (l.map (.int .i64))) k (by simpa using hk)
      rw [new_len] at h4
      rw [new_c] at h5
      exact ⟨m, b, ver, by simpa [litH] using h1, by simpa using h2, h3, by omega, by omega, h6⟩
theorem xdo_bs26_g7 {E : Env} {sh : Bool} {s : Sl} {H : Hp} (x0 x1 x2 x3 x4 x5 x6 : Operand) {v0 v1 v2 v3 v4 v5 v6 : AV} (h0 : ev s x0 = v0) (h1 : ev s x1 = v1) (h2 : ev s x2 = v2) (h3 : ev s x3 = v3) (h4 : ev s x4 = v4) (h5 : ev s x5 = v5) (h6 : ev s x6 = v6)
    (g : [v0, v1, v2, v3, v4, v5, v6].all (fun v => match v with | .sl .. => true | _ => false) = true) :
    xdo E T sh (.buildSlice 26 7 #[(0, x0), (1, x1), (2, x2), (3, x3), (4, x4), (5, x5), (6, x6)]) s H = some (.sl H.bs.length H.c 0 7 1 true, H.new [v0, v1, v2, v3, v4, v5, v6]) := by
  simp only [List.all_cons, List.all_nil, Bool.and_true, Bool.and_eq_true] at g
  obtain ⟨g0, g1, g2, g3, g4, g5, g6⟩ := g
  cases v0 <;> first | cases g0 | skip
  cases v1 <;> first | cases g1 | skip
  cases v2 <;> first | cases g2 | skip
  cases v3 <;> first | cases g3 | skip
  cases v4 <;> first | cases g4 | skip
  cases v5 <;> first | cases g5 | skip
  cases v6 <;> first | cases g6 | skip
  simp [xdo, aop, D26, T22, rep, afill, setAll, AV.cells, AV.one, h0, h1, h2, h3, h4, h5, h6]
theorem goLits7 {E : Env} {s : Sl} {H : Hp} {k : Ct} {l : List Co}
    (h : ∀ (v0 v1 v2 v3 v4 v5 v6 : AV) (HL : Hp), litH H seven = ([v0, v1, v2, v3, v4, v5, v6], HL) →
      YL E T false l ((18, .sl HL.bs.length HL.c 0 7 1 true) :: (17, v6) :: (16, v5) :: (15, v4) :: (14, v3) :: (13, v2) :: (12, v1) :: (11, v0) :: s) (HL.new [v0, v1, v2, v3, v4, v5, v6]) k) :
    YL E T false (⟨some 11, (Op.buildSlice 22 1 #[(0, (Operand.const (Value.int IntKind.i64 2)))]), none⟩ ::
    ⟨some 12, (Op.buildSlice 22 2 #[(0, (Operand.const (Value.int IntKind.i64 2))), (1, (Operand.const (Value.int IntKind.i64 4)))]), none⟩ ::
    ⟨some 13, (Op.buildSlice 22 2 #[(0, (Operand.const (Value.int IntKind.i64 3))), (1, (Operand.const (Value.int IntKind.i64 2)))]), none⟩ ::
    ⟨some 14, (Op.buildSlice 22 3 #[(0, (Operand.const (Value.int IntKind.i64 2))), (1, (Operand.const (Value.int IntKind.i64 2))), (2, (Operand.const (Value.int IntKind.i64 2)))]), none⟩ ::
    ⟨some 15, (Op.buildSlice 22 0 #[]), none⟩ ::
    ⟨some 16, (Op.buildSlice 22 1 #[(0, (Operand.const (Value.int IntKind.i64 5)))]), none⟩ ::
    ⟨some 17, (Op.buildSlice 22 2 #[(0, (Operand.const (Value.int IntKind.i64 2))), (1, (Operand.const (Value.int IntKind.i64 2)))]), none⟩ ::
    ⟨some 18, (Op.buildSlice 26 7 #[(0, (Operand.tmp 11)), (1, (Operand.tmp 12)), (2, (Operand.tmp 13)), (3, (Operand.tmp 14)), (4, (Operand.tmp 15)), (5, (Operand.tmp 16)), (6, (Operand.tmp 17))]), none⟩ :: l) s H k := by
  refine goOp (xdo_bs22_1 2) rfl ?_
  refine goOp (xdo_bs22_2 2 4) rfl ?_
  refine goOp (xdo_bs22_2 3 2) rfl ?_
  refine goOp (xdo_bs22_3 2 2 2) rfl ?_
  refine goOp xdo_bs22_0 rfl ?_
  refine goOp (xdo_bs22_1 5) rfl ?_
  refine goOp (xdo_bs22_2 2 2) rfl ?_
  refine goOp (xdo_bs26_g7 _ _ _ _ _ _ _ rfl rfl rfl rfl rfl rfl rfl rfl) rfl ?_
  exact h _ _ _ _ _ _ _ _ rfl
/-! ### what it comes to -/
def mdM (l : List Int) : List Int := seven.getD (nextOf l 0 7).toNat []
def mdS (l : List Int) : List Int × Nat := shapeT l (nextOf l (nextAt l 0 7) 4).toNat (nextAt l (nextAt l 0 7) 4)
def mdD (l : List Int) : List Int × Nat := dataT l (sizeOf (mdS l).1).toNat (mdS l).2
def mdP (l : List Int) : List Int × Nat := specT l (mdM l).length (mdS l).1.length (mdD l).2 (List.replicate (mdM l).length false)
def madeTr (l : List Int) : Tr := .tup [.agg [trC (mdS l).1, trS (mdD l).1], trF (mdM l), trF (mdP l).1]
theorem seven_len : ∀ m ∈ seven, m.length ≤ 3 := by decide
open Classical in
noncomputable def F31 (args : List AV) (H : Hp) : Option (AV × Hp) := match args with
  | [v] => (ints H v).bind fun l => if In64 l then some (mk (madeTr l) H) else none
  | _ => none
theorem rep_tup3 {c : Nat} {H : Hp} {a b d : Tr} {x y z : AV} {b1 b2 b3 : List (Nat × Nat)} (h1 : Rep c H a x b1) (h2 : Rep c H b y b2) (h3 : Rep c H d z b3) : Rep c H (.tup [a, b, d]) (.tup [x, y, z]) (b1 ++ (b2 ++ b3)) := by
  simp only [Rep, Reps]
  exact ⟨_, rfl, x, _, b1, b2 ++ b3, rfl, h1, ⟨y, _, b2, b3, rfl, h2, ⟨z, _, b3, [], rfl, h3, ⟨rfl, rfl⟩, by simp⟩, rfl⟩, rfl⟩
set_option maxHeartbeats 4000000 in
theorem snd31 : Sound Try.prog 31 (FSem.eff F31).run := by
  refine sound_of hT (EOK_cons snd16 (EOK_cons snd17 (EOK_cons snd18 (EOK_cons snd80 (EOK_nil _))))) mixed A31 Try.func31 hb31 (by kernel_rfl) (by kernel_rfl) (by kernel_rfl) (by kernel_rfl) sh31 1 (by kernel_rfl) rs31 hr31 ?_
  intro args H r H' hw h
  have hv : F31 args H = some (r, H') := h
  clear h
  unfold F31 at hv
  split at hv
  · rename_i v
    obtain ⟨l, hl, hv⟩ := Option.bind_eq_some_iff.1 hv
    split at hv
    rotate_left
    · cases hv
    rename_i hr
    have hvv := Hide.mk (Option.some.inj hv)
    clear hv
    have x0 : Ext H (H.new [.nilS, .nilS]) := (Ext.refl hw).new _
    have c0 : OwnC H (H.new [.nilS, .nilS]) H.bs.length H.c [.nilS, .nilS] := ⟨Nat.le_refl _, new_at _ _⟩
    have hq0lt : H.c < (H.new [AV.nilS, AV.nilS]).c := Nat.lt_succ_self _
    generalize hH0 : H.new [.nilS, .nilS] = H0 at *
    generalize hp0 : H.bs.length = p0 at *
    generalize hq0 : H.c = q0 at *
    have hl0 := ints_ext x0.pre hl
    obtain ⟨hv1, hv2, hvo⟩ := ints_cell hl0
    have ht0 : Tape (H0.new [v, .int .i64 0]) H0.bs.length H0.c v l 0 := ⟨new_at _ _, ints_ext (Pre.new (Pre.refl _) _) hl0, hvo, Nat.zero_le _, hr⟩
    have hE0 : Ext H0 (H0.new [v, .int .i64 0]) := (Ext.refl x0.wf).new _
    have hbx : abox (.agg [v, .int .i64 0]) H0 = some (.ptr H0.bs.length H0.c 0, H0.new [v, .int .i64 0]) := by
      unfold abox; rw [if_pos (by simp [AV.cells, hv2]; rfl)]; rfl
    refine ⟨rfl, go ?_⟩
    unfold c31
    simp only [argSl]
    refine goSeq (goReg ?_)
    iterate 3 (apply goOp; (· (simp [hH0, hp0, hq0]; try exact rfl)); (· exact rfl))
    refine goNil (goSeqN (goSeq (goReg ?_)))
    iterate 4 (apply goOp; (· (simp [hv1, hbx]; try exact rfl)); (· exact rfl))
    refine goNil (goSeqN (goSeq (goReg ?_)))
    have hlt : H0.bs.length < (H0.new [v, .int .i64 0]).bs.length := by rw [new_len]; omega
    have hbl : H0.bs.length ≤ H0.bs.length := Nat.le_refl _
    have hver1 : H0.c < (H0.new [v, .int .i64 0]).c := by rw [new_c]; omega
    have hvH : H0.c ≤ H0.c := Nat.le_refl _
    generalize H0.new [v, .int .i64 0] = H1 at *
    generalize hb : H0.bs.length = b at hbl hlt ht0 hvo ⊢
    generalize hver0 : H0.c = ver at ht0 hver1 hvH hq0lt ⊢
    clear hbx hv1 hv2 hvo
    refine goLits7 fun v0 v1 v2 v3 v4 v5 v6 HL hL => ?_
    have hE1 : Ext H1 HL := by have := litH_ext seven hE0.wf; rwa [hL] at this
    obtain ⟨hk0, hk1⟩ := next_in hr 0 7 (by omega)
    obtain ⟨k, hk⟩ : ∃ k : Nat, nextOf l 0 7 = k := ⟨(nextOf l 0 7).toNat, by omega⟩
    obtain ⟨m, mb, mv, hsz, hm, hmat, hmb, hmv, hmv2⟩ := litH_rep seven hE0.wf k (by simp [seven]; omega)
    rw [hL] at hsz hmat hmv2
    have hmem : m ∈ seven := List.mem_of_getElem? hm
    have hM : mdM l = m := by simp only [mdM, hk, Int.toNat_natCast, List.getD_eq_getElem?_getD, hm, Option.getD_some]
    have hml := seven_len m hmem
    have hvs : HL.bs.length ≠ b := by have := Pre.le hE1.pre; omega
    have ht1 : Tape (HL.new [v0, v1, v2, v3, v4, v5, v6]) b ver v l 0 := ht0.ext (hE1.new _).pre
    have hE2 : Ext H0 (HL.new [v0, v1, v2, v3, v4, v5, v6]) := hE0.trans (hE1.new _)
    have hm1 : (HL.new [v0, v1, v2, v3, v4, v5, v6]).at mb mv = some ⟨mv, m.map (.int .i64), true, true⟩ := at_new hmat _
    have e16 := F16_at ht1 7
    have hix : aidx T 26 (.sl HL.bs.length HL.c 0 7 1 true) (.int .i64 k) = some (.ptr HL.bs.length HL.c k) := by
      rw [aidx26]; simp only [aidxS]; rw [if_pos ⟨trivial, by omega, by omega⟩]; simp
    have hld : aload T 22 (.ptr HL.bs.length HL.c k) (tapePut (HL.new [v0, v1, v2, v3, v4, v5, v6]) b ver v (nextAt l 0 7)) = some (.sl mb mv 0 m.length 1 true) := by
      have := at_put (H := HL.new [v0, v1, v2, v3, v4, v5, v6]) (ver := HL.c) (k := ⟨ver, [v, .int .i64 (nextAt l 0 7)], true, true⟩) hvs
      simp only [aload, T22, tapePut, this, new_at]
      exact hsz
    rw [hk] at e16
    have hmver : mv ≠ ver := by omega
    have hm2 := Keeps.tape (a' := nextAt l 0 7) ht1 hmver _ hm1
    have ht2 : Tape (tapePut (HL.new [v0, v1, v2, v3, v4, v5, v6]) b ver v (nextAt l 0 7)) b ver v l (nextAt l 0 7) := ht1.put (nextAt_le (Nat.zero_le _))
    have hE3 : Ext H0 (tapePut (HL.new [v0, v1, v2, v3, v4, v5, v6]) b ver v (nextAt l 0 7)) := hE2.tapeN (by omega) ht1
    have hver2 : mv < (tapePut (HL.new [v0, v1, v2, v3, v4, v5, v6]) b ver v (nextAt l 0 7)).c := by
      show mv < HL.c + 1
      have : mv < HL.c := hmv2
      omega
    replace hm1 := Hide.mk hm1
    replace hm2 := Hide.mk hm2
    replace ht1 := Hide.mk ht1
    replace ht2 := Hide.mk ht2
    replace hE2 := Hide.mk hE2
    replace hE3 := Hide.mk hE3
    replace hmem := Hide.mk hmem
    replace hver2 := Hide.mk hver2
    replace hr := Hide.mk hr
    replace x0 := Hide.mk x0
    replace c0 := Hide.mk c0
    replace hM := Hide.mk hM
    replace hmat := Hide.mk hmat
    clear hE0 hE1 ht0 hL hm hsz hl0 hH0 hp0
    repeat' (first | apply goSeq | apply goReg | apply goSeqN | apply goSeqR | apply goSkip | apply goRet | apply goNil | apply goBlock | apply goExit | apply goBlkN | apply goBlkR | apply goBlkE | apply goSeqE | apply goLoopR | apply goLoopE | refine xOp ?_ | refine xOp0 ?_ | refine xYes ?_ | refine xNo ?_ | refine xNoU ?_ | refine xIfT ?_ | refine xIfF ?_ | refine xIf ?_ ?_ | refine xSplit ?_ ?_ | refine xIfQ ?_ ?_ | refine xSplitQ ?_ ?_ | refine xBlkX ?_ | intro _)
    have hmv2 : mv < HL.c := hmv2
    have hr := hr.out
    have hm2 := hm2.out
    have hver2 := hver2.out
    clear hv
    have hverG : ver < (tapePut (HL.new [v0, v1, v2, v3, v4, v5, v6]) b ver v (nextAt l 0 7)).c := by omega
    generalize hH2 : tapePut (HL.new [v0, v1, v2, v3, v4, v5, v6]) b ver v (nextAt l 0 7) = H2 at hm2 ht2 hE3 hver2 hverG ⊢
    clear hH2 hld hix e16 ht1 hE2 hm1 hmat
    -- the shape
    obtain ⟨hn0, hn3⟩ := next_in hr (nextAt l 0 7) 4 (by omega)
    have e17 : F17 [.ptr b ver 0] H2 = some (mkS (tapePut H2 b ver v (mdS l).2) (mdS l).1) := by
      simp only [F17]; exact tapeF_at ht2.out
    have h3 : (mdS l).1.length = (nextOf l (nextAt l 0 7) 4).toNat := shapeT_len l (nextOf l (nextAt l 0 7) 4).toNat (nextAt l (nextAt l 0 7) 4)
    have hA : (mdS l).2 ≤ l.length := shapeT_le l (nextOf l (nextAt l 0 7) 4).toNat (nextAt l (nextAt l 0 7) 4) (nextAt_le (nextAt_le (Nat.zero_le _)))
    replace h3 : (mdS l).1.length ≤ 3 := by omega
    have hmd : mdD l = dataT l (sizeOf (mdS l).1).toNat (mdS l).2 := rfl
    have hmp : mdP l = specT l (mdM l).length (mdS l).1.length (mdD l).2 (List.replicate (mdM l).length false) := rfl
    have hmt : madeTr l = .tup [.agg [trC (mdS l).1, trS (mdD l).1], trF (mdM l), trF (mdP l).1] := rfl
    rw [hM.out] at hmp hmt
    generalize mdS l = SA at *
    obtain ⟨S, A2⟩ := SA
    simp only at e17 h3 hA hmd hmp hmt
    have tw := ht2.out.wf (a' := A2) hE3.out.wf
    have ht3 := (ht2.out.put hA).ext (mkS_ext tw S).pre
    have hE4 := (hE3.out.tapeN (a' := A2) (by omega) ht2.out).trans (mkS_ext tw S)
    have ho3 := mkS_own (tapePut H2 b ver v A2) S
    have his3 := ints_of_own ho3 (by omega)
    have hm3 := (mkS_ext tw S).pre.at (Keeps.tape (a' := A2) ht2.out hmver _ hm2)
    have hc3 : H2.c ≤ (mkS (tapePut H2 b ver v A2) S).2.c := (mkS_ext tw S).c
    generalize hr3 : mkS (tapePut H2 b ver v A2) S = r3 at *
    obtain ⟨sv, H3⟩ := r3
    simp only at ht3 hE4 ho3 his3 hm3 hc3
    -- the tensor
    have hsz := sizeOf_le S
    have e80 : F80 [.ptr b ver 0, sv] H3 = some (mk (.agg [trC S, trS (mdD l).1]) (tapePut H3 b ver v (mdD l).2)) := by
      show (ints H3 sv).bind _ = _
      rw [his3, Option.bind_some, if_pos (by omega), hmd]
      exact tapeF_at ht3
    have hDl : (mdD l).1.length ≤ 4096 := by rw [hmd, dataT_len]; omega
    have hA3 : (mdD l).2 ≤ l.length := by rw [hmd]; exact dataT_le _ _ hA
    generalize mdD l = DA at *
    obtain ⟨D, A3⟩ := DA
    simp only at e80 hDl hA3 hmp hmt
    have tw3 := ht3.wf (a' := A3) hE4.wf
    obtain ⟨bs, r1, f1, x1, t1⟩ := mk_tens (H := tapePut H3 b ver v A3) tw3 (a := trC S) (b := trS D) (s := S) (d := D) (.inr (.inr rfl)) (.inl rfl) (by omega) (by omega)
    have ht4 := (ht3.put hA3).ext x1.pre
    have hE5 := (hE4.tapeN (a' := A3) (by omega) ht3).trans x1
    have hm4 := x1.pre.at (Keeps.tape (a' := A3) ht3 hmver _ hm3)
    have hc4 : H3.c ≤ (mk (.agg [trC S, trS D]) (tapePut H3 b ver v A3)).2.c := x1.c
    replace f1 : Fresh H3.c (mk (.agg [trC S, trS D]) (tapePut H3 b ver v A3)).2.c bs := f1
    replace r1 : Rep H3.c (mk (.agg [trC S, trS D]) (tapePut H3 b ver v A3)).2 (.agg [trC S, trS D]) (mk (.agg [trC S, trS D]) (tapePut H3 b ver v A3)).1 bs := r1
    generalize hr4 : mk (.agg [trC S, trS D]) (tapePut H3 b ver v A3) = r4 at *
    obtain ⟨tv, H4⟩ := r4
    simp only at ht4 hE5 hm4 hc4 f1 r1 t1
    obtain ⟨shv, dav, b1, b2, rfl, rs1, rd1, rfl⟩ := rep_agg2.1 r1
    obtain ⟨_, _, hag, hsi, hdi⟩ := tens_some t1
    cases hag
    have hone := ints_one' hsi
    have hone2 := ints_one' hdi
    -- its cell
    have a5 := new_at H4 [.nilS, .nilS]
    have x5 : Ext H4 (H4.new [.nilS, .nilS]) := (Ext.refl hE5.wf).new _
    have st5 := st40 (x := shv) (y := dav) a5 hone hone2
    have hc5 : H4.c < (H4.new [AV.nilS, AV.nilS]).c := Nat.lt_succ_self _
    have x6 : Ext H4 ((H4.new [.nilS, .nilS]).put H4.bs.length ⟨H4.c, [shv, dav], true, true⟩) := put_ext hE5.wf x5 (Nat.le_refl _) a5
    have a6 : ((H4.new [.nilS, .nilS]).put H4.bs.length ⟨H4.c, [shv, dav], true, true⟩).at H4.bs.length H4.c = some ⟨H4.c, [shv, dav], true, true⟩ := at_put_same a5 rfl
    have hc6 : ((H4.new [AV.nilS, AV.nilS]).put H4.bs.length ⟨H4.c, [shv, dav], true, true⟩).c = (H4.new [AV.nilS, AV.nilS]).c := rfl
    generalize hH5 : H4.new [.nilS, .nilS] = H5 at *
    generalize hp5 : H4.bs.length = p5 at *
    generalize hH6 : H5.put p5 ⟨H4.c, [shv, dav], true, true⟩ = H6 at *
    have hE6 := hE5.trans x6
    have ht6 := ht4.ext x6.pre
    have hm6 := x6.pre.at hm4
    have rs6 := Rep.ext x6.pre rs1
    have rd6 := Rep.ext x6.pre rd1
    have hsi6 := ints_ext x6.pre hsi
    have l40 := ld40 a6
    have l22 := ld22 a6 0
    simp only [List.getElem?_cons_zero] at l22
    have hlS := alenS_ints hsi6
    simp only [← alen22] at hlS
    have him6 : ints H6 (.sl mb mv 0 m.length 1 true) = some m := ints_of_ownF (H0 := ⟨[], 0⟩) ⟨mb, mv, rfl, Nat.zero_le _, hm6⟩ (by omega)
    have hmof : off (.sl mb mv 0 m.length 1 true) b = true := by
      have : mb ≠ b := by omega
      simpa [off] using this
    -- the spec
    have e18 : F18 [.ptr b ver 0, .sl mb mv 0 m.length 1 true, .int .i64 S.length] H6 = some (mkF (tapePut H6 b ver v (mdP l).2) (mdP l).1) := by
      rw [F18_at ht6 him6 (by omega) (by omega) hmof, hmp]
    have hPl : (mdP l).1.length ≤ 3 := by rw [hmp, specT_len]; exact h3
    generalize mdP l = PA at *
    obtain ⟨P, A4⟩ := PA
    simp only at e18 hPl hmt
    have tw6 := ht6.wf (a' := A4) hE6.wf
    have ho7 := mkF_own (tapePut H6 b ver v A4) P
    have hx7 := mkF_ext tw6 P
    have hk7 : ∀ b' ver', ver' ≠ ver → Keeps H6 (mkF (tapePut H6 b ver v A4) P).2 b' ver' := fun b' ver' h => (Keeps.tape ht6 h).trans (Keeps.pre hx7.pre b' ver')
    have hE7 := (hE6.tapeN (a' := A4) (by omega) ht6).trans hx7
    have hc7 : H6.c < (mkF (tapePut H6 b ver v A4) P).2.c := Nat.lt_succ_self _
    generalize hr7 : mkF (tapePut H6 b ver v A4) P = r7 at *
    obtain ⟨pv, H7⟩ := r7
    simp only at ho7 hk7 hE7 hc7
    obtain ⟨b7, r7, f7⟩ := OwnF.repF hE7.wf ho7
    have a7 := hk7 p5 H4.c (by omega) _ a6
    have l40b := ld40 a7
    have c7 : OwnC H H7 p0 q0 [.nilS, .nilS] := (c0.out.ext hE7.pre)
    have st8 := st40 (x := shv) (y := dav) c7.at' hone hone2
    have hk8 : ∀ b' ver', ver' ≠ q0 → Keeps H7 (H7.put p0 ⟨q0, [shv, dav], true, true⟩) b' ver' := fun b' ver' h => Keeps.put c7.at' h
    have lr := ld40 (at_put_same (k' := ⟨q0, [shv, dav], true, true⟩) c7.at' rfl)
    have hx8 := put_ext (cs := [shv, dav]) hw (x0.out.trans hE7) (by omega) c7.at'
    replace f7 : Fresh H6.c H7.c b7 := f7
    replace r7 : Rep H6.c H7 (trF P) pv b7 := r7
    clear ht2 hE3 ht3 hE4 ho3 his3 hm3 tw tw3 x1 ht4 hE5 hm4 r1 t1 rs1 rd1 hsi hdi a5 x5 x6 hE6 ht6 hsi6 him6 hmof tw6 ho7 hx7 hE7 c7 hn0 hn3 hk0 hk1 hk hH6
    replace f1 := Hide.mk f1
    replace f7 := Hide.mk f7
    replace r7 := Hide.mk r7
    replace rs6 := Hide.mk rs6
    replace rd6 := Hide.mk rd6
    replace hm6 := Hide.mk hm6
    replace hk7 := Hide.mk hk7
    replace hk8 := Hide.mk hk8
    replace hx8 := Hide.mk hx8
    replace hmt := Hide.mk hmt
    repeat' (first | apply goSeq | apply goReg | apply goSeqN | apply goSeqR | apply goSkip | apply goRet | apply goNil | apply goBlock | apply goExit | apply goBlkN | apply goBlkR | apply goBlkE | apply goSeqE | apply goLoopR | apply goLoopE | refine xOp ?_ | refine xOp0 ?_ | refine xYes ?_ | refine xNo ?_ | refine xNoU ?_ | refine xIfT ?_ | refine xIfF ?_ | refine xIf ?_ ?_ | refine xSplit ?_ ?_ | refine xIfQ ?_ ?_ | refine xSplitQ ?_ ?_ | refine xBlkX ?_ | intro _)
    apply goDrw
    iterate 8 (apply goTOp; (· (simp [*]; try exact rfl)); (· exact rfl))
    apply goTOp0; (· (simp [*]; try exact rfl)); (· exact rfl)
    iterate 2 (apply goTOp; (· (simp [*]; try exact rfl)); (· exact rfl))
    refine goTNil (by simp [again, XG_none, get, l40, l40b]) ?_
    repeat' (first | apply goSeq | apply goReg | apply goSeqN | apply goSeqR | apply goSkip | apply goRet | apply goNil | apply goBlock | apply goExit | apply goBlkN | apply goBlkR | apply goBlkE | apply goSeqE | apply goLoopR | apply goLoopE | refine xOp ?_ | refine xOp0 ?_ | refine xYes ?_ | refine xNo ?_ | refine xNoU ?_ | refine xIfT ?_ | refine xIfF ?_ | refine xIf ?_ ?_ | refine xSplit ?_ ?_ | refine xIfQ ?_ ?_ | refine xSplitQ ?_ ?_ | refine xBlkX ?_ | intro _)
    have hf1 := f1.out
    have hf7 := f7.out
    have hk12 : ∀ p ∈ b1 ++ b2, p.2 ≠ ver ∧ p.2 ≠ q0 := fun p hp => by have := (hf1.2 p hp).1; omega
    have hk77 : ∀ p ∈ b7, p.2 ≠ q0 := fun p hp => by have := (hf7.2 p hp).1; omega
    have hkk : ∀ b' ver', ver' ≠ ver → ver' ≠ q0 → Keeps H6 (H7.put p0 ⟨q0, [shv, dav], true, true⟩) b' ver' := fun b' ver' h1 h2 => (hk7.out b' ver' h1).trans (hk8.out b' ver' h2)
    have hm8 : Rep H.c (H7.put p0 ⟨q0, [shv, dav], true, true⟩) (trF m) (.sl mb mv 0 m.length 1 true) [(mb, mv)] := rep_F.2 ⟨mb, mv, rfl, by omega, hkk mb mv hmver (by omega) _ hm6.out, rfl⟩
    have ht8 : Rep H.c (H7.put p0 ⟨q0, [shv, dav], true, true⟩) (.agg [trC S, trS D]) (.agg [shv, dav]) (b1 ++ b2) :=
      rep_agg2.2 ⟨shv, dav, b1, b2, rfl, rep_down _ (c0 := 0) (okT_C 0 S) (Nat.zero_le _) (by omega) (Rep.keep (trC S) (fun p hp => hkk p.1 p.2 (hk12 p (by simp [hp])).1 (hk12 p (by simp [hp])).2) rs6.out), rep_down _ (c0 := 0) (okT_S 0 D) (Nat.zero_le _) (by omega) (Rep.keep (trS D) (fun p hp => hkk p.1 p.2 (hk12 p (by simp [hp])).1 (hk12 p (by simp [hp])).2) rd6.out), rfl⟩
    have hp8 : Rep H.c (H7.put p0 ⟨q0, [shv, dav], true, true⟩) (trF P) pv b7 := rep_down _ (c0 := 0) (okT_F 0 P) (Nat.zero_le _) (by omega) (Rep.keep (trF P) (fun p hp => hk8.out p.1 p.2 (hk77 p hp)) r7.out)
    have hall : Fresh H.c H7.c ((b1 ++ b2) ++ ([(mb, mv)] ++ b7)) := by
      have g1 : Fresh H.c H2.c [(mb, mv)] := Fresh.one (by omega) hver2
      have g2 := g1.app (hf1.wide hc3 (Nat.le_refl _)) (by omega) (by omega)
      have g3 := g2.app (hf7.wide (by omega : H4.c ≤ H6.c) (Nat.le_refl _)) (by omega) (by omega)
      refine g3.perm ?_
      rw [← List.append_assoc (b1 ++ b2)]
      exact List.Perm.append_right b7 List.perm_append_comm
    exact goEndR (vs := [.agg [shv, dav], .sl mb mv 0 m.length 1 true, pv]) (bs := (b1 ++ b2) ++ ([(mb, mv)] ++ b7)) (d := H7.c) (t := .tup [.agg [trC S, trS D], trF m, trF P]) hw hx8.out.pre (rep_tup3 ht8 hm8 hp8) hall (by simp) (by simp [rs31, lr]) rfl (hmt.out ▸ hvv.out)
  · cases hv
/- Walks: some of chapter 17's runs. -/
section
variable {E : Env} {s : Sl} {H : Hp} {k : Ct} {l : List Co}
theorem lit_new (hw : Wf H) (m : List Int) (hm : m.length ≤ 1152921504606846976) : Ext H (H.new (m.map (.int .i64))) ∧ ints (H.new (m.map (.int .i64))) (.sl H.bs.length H.c 0 m.length 1 true) = some m :=
  ⟨(Ext.refl hw).new _, ints_of_ownF (H0 := H) ⟨_, _, rfl, Nat.le_refl _, new_at _ _⟩ hm⟩
/-- A list of one number that stands in the text. -/
theorem goLit1 {d : Nat} {a : Int} (hw : Wf H) (h : ∀ v A, Ext H A → ints A v = some [a] → notMt v = true → YL E T false l ((d, v) :: s) A k) : YL E T false (⟨some d, .buildSlice 22 1 #[(0, .const (.int .i64 a))], none⟩ :: l) s H k := by
  obtain ⟨h1, h2⟩ := lit_new hw [a] (by simp)
  exact goOp (xdo_bs22_1 a) rfl (h _ _ h1 h2 rfl)
theorem xdo_bs38_3 {sh : Bool} (a b c : Int) : xdo E T sh (.buildSlice 38 3 #[(0, .const (.int .i64 a)), (1, .const (.int .i64 b)), (2, .const (.int .i64 c))]) s H = some (.sl H.bs.length H.c 0 3 1 true, H.new ([a, b, c].map (.int .i64))) := by
  simp [xdo, aop, D38, T2, rep, afill, setAll, AV.cells, AV.one]
theorem goLit3 {d : Nat} {a b c : Int} (hw : Wf H) (h : ∀ v A, Ext H A → ints A v = some [a, b, c] → notMt v = true → YL E T false l ((d, v) :: s) A k) : YL E T false (⟨some d, .buildSlice 38 3 #[(0, .const (.int .i64 a)), (1, .const (.int .i64 b)), (2, .const (.int .i64 c))], none⟩ :: l) s H k := by
  obtain ⟨h1, h2⟩ := lit_new hw [a, b, c] (by simp)
  exact goOp (xdo_bs38_3 a b c) rfl (h _ _ h1 h2 rfl)
/-- A cell of a tensor's own is made and filled. -/
theorem goCell {d : Nat} {o : Operand} {x y : AV} (hw : Wf H) (hx : x.one = true) (hy : y.one = true) (he : ∀ u, ev ((d, u) :: s) o = .agg [x, y]) (hd : ∀ u, ev ((d, u) :: s) (.tmp d) = u)
    (h : ∀ b ver A, Ext H A → A.at b ver = some ⟨ver, [x, y], true, true⟩ → H.c ≤ ver → ver < A.c → (∀ b' ver', Keeps H A b' ver') → YL E T false l ((d, .ptr b ver 0) :: s) A k) :
    YL E T false (⟨some d, .alloc 40, none⟩ :: ⟨none, .store 40 (.tmp d) o, none⟩ :: l) s H k := by
  have a0 := new_at H [.nilS, .nilS]
  have x0 : Ext H (H.new [.nilS, .nilS]) := (Ext.refl hw).new _
  have x1 := put_ext (cs := [x, y]) hw x0 (Nat.le_refl _) a0
  refine goOp xdo_alloc40 rfl (goOp0 (v := .bad) (H' := (H.new [.nilS, .nilS]).put H.bs.length ⟨H.c, [x, y], true, true⟩) (by simp [he, hd]; exact rfl) (by rw [st40 a0 hx hy]; rfl) (h _ _ _ x1 (at_put_same a0 rfl) (Nat.le_refl _) (Nat.lt_succ_self _) fun b' ver' => Keeps.pre x1.pre b' ver'))
end
/-- What All hands back, as lists. -/
noncomputable def allL (p : List Int × List Int) (sz sp : List Int) : List TS := (List.range (devs sz).toNat).map fun (d : Nat) => (sizeL p.1 sz sp d, partD p sz sp d)
theorem allL_len (p : List Int × List Int) (sz sp : List Int) : (allL p sz sp).length = (devs sz).toNat := by simp [allL]
theorem allL_at (p : List Int × List Int) (sz sp : List Int) {j : Nat} (h : j < (devs sz).toNat) : tth (allL p sz sp) j = (sizeL p.1 sz sp j, partD p sz sp j) := by
  simp [tth, allL, List.getD_eq_getElem?_getD, h]
theorem all_rep {H : Hp} (hw : Wf H) {p : List Int × List Int} {sz sp : List Int} (hm : mayL p sz sp = 0) : ∃ v H1, mk (allT p sz sp) H = (.tup [v, .int .i64 0], H1) ∧ Ext H H1 ∧ tensL H1 v = some (allL p sz sp) := by
  have h8 := devs_le sz
  have hres : allT p sz sp = .tup [trTs (partsN p sz sp (devs sz).toNat), .at (.int .i64 0)] := by simp [allT, hm]
  obtain ⟨bs, h1, _, h3⟩ := mk_rep (trTs (partsN p sz sp (devs sz).toNat)) (c0 := 0) hw (Nat.zero_le _) (okT_Ts 0 p sz sp _)
  refine ⟨_, _, by rw [hres, mk_tupI], h3, ?_⟩
  refine rep_tensL h1 (by rw [partsN_len, allL_len]) (by rw [allL_len]; omega) fun j hj => ?_
  rw [allL_len] at hj
  rw [allL_at p sz sp hj]
  refine ⟨trS (sizeL p.1 sz sp j), trF (partD p sz sp j), by simp [partsN, hj], .inl rfl, .inr (.inl rfl), ?_, ?_⟩
  · have := sizeL_len p.1 sz sp j
    show (sizeL p.1 sz sp j).length ≤ _
    omega
  · have := partD_len p sz sp j
    show (partD p sz sp j).length ≤ _
    omega
/-! ### the numbers -/
theorem kn_may (d : Int) (h0 : 0 ≤ d) (h1 : d < 2) : mayCut [3] [2] [0] d := ⟨by decide, by decide, h0, by rw [known_devs]; exact h1⟩
theorem kn_may1 (d : Int) (h0 : 0 ≤ d) (h1 : d < 2) : mayCut [3] [2] [-1] d := ⟨by decide, by decide, h0, by rw [known_devs]; exact h1⟩
theorem kn_s0 : sizeL [3] [2] [0] 0 = [2] := by unfold sizeL cutsL; rw [if_pos (kn_may 0 (by decide) (by decide))]; decide
theorem kn_s1 : sizeL [3] [2] [0] 1 = [1] := by unfold sizeL cutsL; rw [if_pos (kn_may 1 (by decide) (by decide))]; decide
theorem kn_f0 : fromL [3] [2] [0] 0 = [0] := by unfold fromL cutsL; rw [if_pos (kn_may 0 (by decide) (by decide))]; decide
theorem kn_f1 : fromL [3] [2] [0] 1 = [2] := by unfold fromL cutsL; rw [if_pos (kn_may 1 (by decide) (by decide))]; decide
theorem kn_t0 : sizeL [3] [2] [-1] 0 = [3] := by unfold sizeL cutsL; rw [if_pos (kn_may1 0 (by decide) (by decide))]; decide
theorem kn_t1 : sizeL [3] [2] [-1] 1 = [3] := by unfold sizeL cutsL; rw [if_pos (kn_may1 1 (by decide) (by decide))]; decide
theorem kn_all : allL ([3], [1, 2, 3]) [2] [0] = [([2], [1, 2]), ([1], [3])] := by
  have hd : (devs [2]).toNat = 2 := by decide
  have h0 : partD ([3], [1, 2, 3]) [2] [0] 0 = [1, 2] := by unfold partD; simp only [kn_s0, kn_f0]; decide
  have h1 : partD ([3], [1, 2, 3]) [2] [0] 1 = [3] := by unfold partD; simp only [kn_s1, kn_f1]; decide
  unfold allL
  rw [hd]
  simp [List.range_succ, kn_s0, kn_s1, h0, h1]
theorem kn_join (sv : AV) : joinT sv [([3], [1, 2, 3]), ([3], [1, 2, 4])] [3] [2] [-1] = zeroT 25 := by
  unfold joinT
  rw [if_pos (by decide), if_pos (by decide), if_pos, if_neg (by decide)]
  rw [allN_iff]
  intro j hj
  simp only [List.length_cons, List.length_nil] at hj
  unfold ok1
  rcases (by omega : j = 0 ∨ j = 1) with rfl | rfl
  · rw [show ((0 : Nat) : Int) = 0 from rfl, kn_t0]; decide
  · rw [show ((1 : Nat) : Int) = 1 from rfl, kn_t1]; decide
def bs45_2 (a b : AV) (H : Hp) : Option (AV × Hp) := (afill (fun j => some (j * 2, 2)) [.nilS, .nilS, .nilS, .nilS] [(0, a), (1, b)]).map fun cs => (.sl H.bs.length H.c 0 2 2 true, H.new cs)
theorem bs45_2_agg {x y z u : AV} (H : Hp) (hx : x.one = true) (hy : y.one = true) (hz : z.one = true) (hu : u.one = true) : bs45_2 (.agg [x, y]) (.agg [z, u]) H = some (.sl H.bs.length H.c 0 2 2 true, H.new [x, y, z, u]) := by
  simp [bs45_2, afill, AV.cells, hx, hy, hz, hu, setAll]
theorem xdo_bs45_2 {E : Env} {sh : Bool} {s : Sl} {H : Hp} (x y : Operand) : xdo E T sh (.buildSlice 45 2 #[(0, x), (1, y)]) s H = bs45_2 (ev s x) (ev s y) H := by
  simp [xdo, aop, D45, T40, rep, bs45_2]
theorem tensL_2 {H A : Hp} {x y z u : AV} {p q : TS} (hA : A = H.new [x, y, z, u]) (h1 : tens A (.agg [x, y]) = some p) (h2 : tens A (.agg [z, u]) = some q) : tensL A (.sl H.bs.length H.c 0 2 2 true) = some [p, q] := by
  subst hA
  simp only [tensL, new_at, Option.bind_some]
  simp [tensG, h1, h2]
def F36 (args : List AV) (H : Hp) : Option AV := match args with
  | [] => some (.bool true)
  | _ => none
set_option maxHeartbeats 2000000 in
theorem snd36 : Sound Try.prog 36 (FSem.pure F36).run := by
  refine sound_of hT (EOK_cons snd37 (EOK_cons snd38 (EOK_nil _))) mixed A36 Try.func36 hb36 (by kernel_rfl) (by kernel_rfl) (by kernel_rfl) (by kernel_rfl) sh36 0 (by kernel_rfl) rs36 hr36 ?_
  intro args H r H' hw h
  obtain ⟨rfl, hv⟩ := pureAt h
  clear h
  unfold F36 at hv
  split at hv
  rotate_left
  · cases hv
  cases hv
  refine ⟨rfl, go ?_⟩
  unfold c36
  simp only [argSl]
  refine goSeq (goReg (goOp rfl rfl (goNil (goSeqN ?_))))
  refine goSeq (goReg ?_)
  refine goLit1 hw fun v6 A1 x1 i6 m6 => ?_
  refine goLit3 x1.wf fun v7 A2 x2 i7 m7 => ?_
  have i6' := ints_ext x2.pre i6
  have hb := bld40_one (ints_one' i6') (ints_one' i7)
  apply goOp; (· (simp [hb]; exact rfl)); (· exact rfl)
  refine goCell x2.wf (ints_one' i6') (ints_one' i7) (fun u => rfl) (fun u => rfl) fun b0 q0 A3 x3 a3 u1 u2 u3 => ?_
  have ht3 := tens_of (ints_ext x3.pre i6') (ints_ext x3.pre i7)
  have l3 := ld40 a3
  refine goNil (goSeqN (goSeq (goReg ?_)))
  apply goOp; (· (simp [l3]; exact rfl)); (· exact rfl)
  refine goLit1 x3.wf fun v11 A4 x4 i11 _ => ?_
  refine goLit1 x4.wf fun v12 A5 x5 i12 m12 => ?_
  have ht5 := tens_ext (x4.pre.trans x5.pre) ht3
  obtain ⟨lv, A6, hal, x6, hL⟩ := all_rep (H := A5) x5.wf (p := ([3], [1, 2, 3])) (sz := [2]) (sp := [0]) (by decide)
  rw [kn_all] at hL
  have e37 : F37 [.agg [v6, v7], v11, v12] A5 = some (.tup [lv, .int .i64 0], A6) := by
    show (tens A5 _).bind _ = _
    rw [ht5, Option.bind_some, ints_ext x5.pre i11, Option.bind_some, i12, Option.map_some, hal]
  iterate 6 (apply goOp; (· (simp [e37]; exact rfl)); (· exact rfl))
  refine goNil (goSeqN (goSeq (goReg ?_)))
  have l6 := ld40 ((x4.pre.trans (x5.pre.trans x6.pre)).at a3)
  apply goOp; (· (simp [l6]; exact rfl)); (· exact rfl)
  refine goLit1 x6.wf fun v18 A7 x7 i18 _ => ?_
  refine goLit3 x7.wf fun v19 A8 x8 i19 _ => ?_
  have i18' := ints_ext x8.pre i18
  have hb2 := bld40_one (ints_one' i18') (ints_one' i19)
  apply goOp; (· (simp [hb2]; exact rfl)); (· exact rfl)
  have hb3 := bs45_2_agg A8 (ints_one' i6') (ints_one' i7) (ints_one' i18') (ints_one' i19)
  refine goOp (v := .sl A8.bs.length A8.c 0 2 2 true) (H' := A8.new [v6, v7, v18, v19]) (xdo_bs45_2 _ _) hb3 ?_
  have x9 : Ext A8 (A8.new [v6, v7, v18, v19]) := (Ext.refl x8.wf).new _
  have hxx := ((((x4.pre.trans x5.pre).trans x6.pre).trans x7.pre).trans x8.pre).trans x9.pre
  have hL2 : tensL (A8.new [v6, v7, v18, v19]) (.sl A8.bs.length A8.c 0 2 2 true) = some [([3], [1, 2, 3]), ([3], [1, 2, 4])] :=
    tensL_2 rfl (tens_ext hxx ht3) (tens_of (ints_ext x9.pre i18') (ints_ext x9.pre i19))
  generalize A8.new [v6, v7, v18, v19] = A9 at *
  generalize AV.sl A8.bs.length A8.c 0 2 2 true = jl at *
  refine goLit1 x9.wf fun v22 A10 x10 i22 m22 => ?_
  refine goLit1 x10.wf fun v23 A11 x11 i23 _ => ?_
  refine goLit1 x11.wf fun v24 A12 x12 i24 _ => ?_
  have e38 : F38 [jl, v22, v23, v24] A12 = some (.tup [.agg [.nilS, .nilS], .int .i64 25], A12) := by
    show (tensL A12 _).bind _ = _
    rw [tensL_ext ((x10.pre.trans x11.pre).trans x12.pre) hL2, Option.bind_some, ints_ext (x11.pre.trans x12.pre) i22, Option.bind_some, ints_ext x12.pre i23, Option.bind_some, i24, Option.bind_some, if_pos ⟨m22, by simp⟩, kn_join, mk_zero]
  iterate 4 (apply goOp; (· (simp [e38]; exact rfl)); (· exact rfl))
  refine goCell x12.wf rfl rfl (fun u => rfl) (fun u => rfl) fun b4 q4 A13 x13 a13 u4 u5 u6 => ?_
  apply goOp; (· (simp; exact rfl)); (· exact rfl)
  refine goNil (goSeqN (goSeq (goReg ?_)))
  have hp : Pre A6 A13 := (((((x7.pre.trans x8.pre).trans x9.pre).trans x10.pre).trans x11.pre).trans x12.pre).trans x13.pre
  have hPA : Pre H' A13 := ((((((x1.pre.trans x2.pre).trans x3.pre).trans x4.pre).trans x5.pre).trans x6.pre)).trans hp
  obtain ⟨hn, h1t, hat⟩ := tensL_at (tensL_ext hp hL)
  obtain ⟨q1, x1', y1, g1, g2, g3, b1, w1, o1, rfl, g4⟩ := hat 0 (by decide)
  obtain ⟨q2, x2', y2, h1, h2, h3, b2, w2, o2, rfl, h4⟩ := hat 1 (by decide)
  obtain ⟨_, _, hag, hx1, hy1⟩ := tens_some g3
  cases hag
  obtain ⟨_, _, hag, hx2, hy2⟩ := tens_some h3
  cases hag
  have hy1' : ints A13 y1 = some [1, 2] := hy1
  have hy2' : ints A13 y2 = some [3] := hy2
  have n1 := alenS_ints hy1'
  have n2 := alenS_ints hy2'
  have ix2 := aidxS_ints hy2' .i64 0
  have ld2 := aload_nth T2 rfl hy2' 0 (by decide) (by decide)
  simp only [← alen38] at n1 n2
  simp only [← aidx38] at ix2
  replace hn : alen T 45 lv = some (.int .i64 2) := hn
  replace n1 : alen T 38 y1 = some (.int .i64 2) := n1
  replace n2 : alen T 38 y2 = some (.int .i64 1) := n2
  replace ix2 : aidx T 38 y2 (.int .i64 0) = some (pAt y2 0) := ix2
  replace ld2 : aload T 2 (pAt y2 0) A13 = some (.int .i64 3) := ld2
  replace g1 : aidx T 45 lv (.int .i64 0) = some (.ptr b1 w1 o1) := g1
  replace h1 : aidx T 45 lv (.int .i64 1) = some (.ptr b2 w2 o2) := h1
  replace hPA := Hide.mk hPA
  have hww := Hide.mk hw
  clear h1t hx1 hx2 hw u1 u2 u3 u4 u5 u6 x1 x2 x3 x4 x5 x6 x7 x8 x9 x10 x11 x12 x13 i6 i7 i6' i11 i12 i18 i18' i19 i22 i23 i24 ht3 ht5 hL hL2 a3 a13 l3 l6 hxx hp hat hy1 hy2 g3 h3 hy1' hy2' e37 e38 hb hb2 hb3 m6 m7 m22 hal g2 h2
  repeat' (first | apply goSeq | apply goReg | apply goSeqN | apply goSeqR | apply goSkip | apply goRet | apply goNil | apply goBlock | apply goExit | apply goBlkN | apply goBlkR | apply goBlkE | apply goSeqE | apply goLoopR | apply goLoopE | refine xOp ?_ | refine xOp0 ?_ | refine xYes ?_ | refine xNo ?_ | refine xNoU ?_ | refine xIfT ?_ | refine xIfF ?_ | refine xIf ?_ ?_ | refine xSplit ?_ ?_ | refine xIfQ ?_ ?_ | refine xSplitQ ?_ ?_ | refine xBlkX ?_ | intro _)
  exact goEnd hww.out hPA.out (by simp) (by simp [rs36]; exact rfl) rfl rfl
/- Functions in short form. -/
/-! parquetry/parquetryref14.At (2 parameters; calls 20 parquetry/parquetryref14.Devices) -/
def A98 : Ann := { live := fun i => if i = 5 then [0, 1, 5, 6] else [], drop := fun i => false }
noncomputable def c98 : Cc :=
  (.seq (.reg false [⟨some 4, (Op.assign (Operand.const (Value.slice none 0 0))), none⟩])
  (.seq (.seq (.reg false [⟨some 7, (Op.move (Operand.tmp 1)), none⟩,
    ⟨some 8, (Op.binOp BinOp.lss 3 (Operand.tmp 7) (Operand.const (Value.int IntKind.i64 0)) 3), none⟩,
    ⟨some 9, (Op.move (Operand.tmp 8)), none⟩,
    ⟨some 10, (Op.move (Operand.tmp 1)), some (9, false)⟩,
    ⟨some 11, (Op.move (Operand.tmp 0)), some (9, false)⟩,
    ⟨some 12, (Op.call { callee := (Callee.value (Operand.func 20)), args := #[(Operand.tmp 11)], argTypes := #[22] }), some (9, false)⟩,
    ⟨some 13, (Op.binOp BinOp.geq 3 (Operand.tmp 10) (Operand.tmp 12) 3), some (9, false)⟩,
    ⟨some 14, (Op.pick (Operand.tmp 9) (Operand.const (Value.bool true)) (Operand.tmp 13)), none⟩])
  (.cond (Operand.tmp 14)
    (.seq (.reg false [⟨some 4, (Op.assign (Operand.const (Value.slice none 0 0))), none⟩])
    .ret)
    .skip))
  (.seq (.reg false [⟨some 15, (Op.move (Operand.tmp 0)), none⟩,
    ⟨some 16, (Op.call { callee := (Callee.builtin Builtin.len), args := #[(Operand.tmp 15)], argTypes := #[22] }), none⟩,
    ⟨some 17, (Op.makeSlice 22 (Operand.tmp 16) (Operand.tmp 16)), none⟩,
    ⟨some 5, (Op.assign (Operand.tmp 17)), none⟩])
  (.seq (.seq (.reg false [⟨some 18, (Op.move (Operand.tmp 0)), none⟩,
    ⟨some 19, (Op.call { callee := (Callee.builtin Builtin.len), args := #[(Operand.tmp 18)], argTypes := #[22] }), none⟩,
    ⟨some 20, (Op.binOp BinOp.sub 3 (Operand.tmp 19) (Operand.const (Value.int IntKind.i64 1)) 3), none⟩,
    ⟨some 6, (Op.assign (Operand.tmp 20)), none⟩])
  (.block 0 (.loop [0, 1, 5, 6] false
    (.seq (.seq (.reg false [⟨some 21, (Op.move (Operand.tmp 6)), none⟩,
      ⟨some 22, (Op.binOp BinOp.geq 3 (Operand.tmp 21) (Operand.const (Value.int IntKind.i64 0)) 3), none⟩])
    (.cond (Operand.tmp 22)
      .skip
      (.exit 0)))
    (.seq (.block 1 (.seq (.reg false [⟨some 25, (Op.move (Operand.tmp 5)), none⟩,
      ⟨some 26, (Op.move (Operand.tmp 6)), none⟩,
      ⟨some 27, (Op.move (Operand.tmp 1)), none⟩,
      ⟨some 28, (Op.move (Operand.tmp 0)), none⟩,
      ⟨some 29, (Op.move (Operand.tmp 6)), none⟩,
      ⟨some 30, (Op.indexAddr 22 (Operand.tmp 28) (Operand.tmp 29)), none⟩,
      ⟨some 31, (Op.load 3 (Operand.tmp 30)), none⟩,
      ⟨some 32, (Op.binOp BinOp.rem 3 (Operand.tmp 27) (Operand.tmp 31) 3), none⟩,
      ⟨some 33, (Op.indexAddr 22 (Operand.tmp 25) (Operand.tmp 26)), none⟩,
      ⟨none, (Op.store 3 (Operand.tmp 33) (Operand.tmp 32)), none⟩])
    (.reg false [⟨some 34, (Op.move (Operand.tmp 1)), none⟩,
      ⟨some 35, (Op.move (Operand.tmp 0)), none⟩,
      ⟨some 36, (Op.move (Operand.tmp 6)), none⟩,
      ⟨some 37, (Op.indexAddr 22 (Operand.tmp 35) (Operand.tmp 36)), none⟩,
      ⟨some 38, (Op.load 3 (Operand.tmp 37)), none⟩,
      ⟨some 39, (Op.binOp BinOp.quo 3 (Operand.tmp 34) (Operand.tmp 38) 3), none⟩,
      ⟨some 1, (Op.assign (Operand.tmp 39)), none⟩])))
    (.reg false [⟨some 23, (Op.move (Operand.tmp 6)), none⟩,
      ⟨some 24, (Op.binOp BinOp.sub 3 (Operand.tmp 23) (Operand.const (Value.int IntKind.i64 1)) 3), none⟩,
      ⟨some 6, (Op.assign (Operand.tmp 24)), none⟩]))))))
  (.seq (.reg false [⟨some 40, (Op.move (Operand.tmp 5)), none⟩,
    ⟨some 4, (Op.assign (Operand.tmp 40)), none⟩])
  .ret)))))
noncomputable def b98 : Code := Try.f98.body.getD .skip
theorem hb98 : Try.f98.body = some b98 := by kernel_rfl
theorem sh98 : shortC A98 b98 = c98 := by kernel_rfl
def rs98 : List ResultVar := [(ResultVar.tmp 4)]
theorem hr98 : Try.f98.results.toList = rs98 := by kernel_rfl
/-! parquetry/parquetryref14.Of (2 parameters; calls 56 parquetry/parquetryref14.Right) -/
def A127 : Ann := { live := fun i => if i = 5 then [0, 1, 5, 18, 19] else [], drop := fun i => false }
noncomputable def c127 : Cc :=
  (.seq (.reg false [⟨some 4, (Op.assign (Operand.const (Value.int IntKind.i64 0))), none⟩])
  (.seq (.seq (.reg false [⟨some 7, (Op.move (Operand.tmp 0)), none⟩,
    ⟨some 8, (Op.call { callee := (Callee.value (Operand.func 56)), args := #[(Operand.tmp 7)], argTypes := #[22] }), none⟩,
    ⟨some 9, (Op.unOp UnOp.not 4 (Operand.tmp 8)), none⟩,
    ⟨some 10, (Op.move (Operand.tmp 9)), none⟩,
    ⟨some 11, (Op.move (Operand.tmp 1)), some (10, false)⟩,
    ⟨some 12, (Op.call { callee := (Callee.builtin Builtin.len), args := #[(Operand.tmp 11)], argTypes := #[22] }), some (10, false)⟩,
    ⟨some 13, (Op.move (Operand.tmp 0)), some (10, false)⟩,
    ⟨some 14, (Op.call { callee := (Callee.builtin Builtin.len), args := #[(Operand.tmp 13)], argTypes := #[22] }), some (10, false)⟩,
    ⟨some 15, (Op.binOp BinOp.neq 3 (Operand.tmp 12) (Operand.tmp 14) 3), some (10, false)⟩,
    ⟨some 16, (Op.pick (Operand.tmp 10) (Operand.const (Value.bool true)) (Operand.tmp 15)), none⟩])
  (.cond (Operand.tmp 16)
    (.seq (.reg false [⟨some 4, (Op.assign (Operand.const (Value.int IntKind.i64 (-1)))), none⟩])
    .ret)
    .skip))
  (.seq (.reg false [⟨some 5, (Op.assign (Operand.const (Value.int IntKind.i64 0))), none⟩])
  (.seq (.seq (.reg false [⟨some 17, (Op.move (Operand.tmp 0)), none⟩,
    ⟨some 18, (Op.call { callee := (Callee.builtin Builtin.len), args := #[(Operand.tmp 17)], argTypes := #[22] }), none⟩,
    ⟨some 19, (Op.move (Operand.const (Value.int IntKind.i64 0))), none⟩])
  (.block 0 (.loop [0, 1, 5, 18, 19] false
    (.seq (.reg false [⟨some 20, (Op.binOp BinOp.lss 3 (Operand.tmp 19) (Operand.tmp 18) 3), none⟩])
    (.seq (.cond (Operand.tmp 20)
      .skip
      (.exit 0))
    (.seq (.block 1 (.seq (.reg false [⟨some 21, (Op.move (Operand.tmp 19)), none⟩,
      ⟨some 6, (Op.assign (Operand.tmp 21)), none⟩])
    (.seq (.seq (.reg false [⟨some 22, (Op.move (Operand.tmp 1)), none⟩,
      ⟨some 23, (Op.move (Operand.tmp 6)), none⟩,
      ⟨some 24, (Op.indexAddr 22 (Operand.tmp 22) (Operand.tmp 23)), none⟩,
      ⟨some 25, (Op.load 3 (Operand.tmp 24)), none⟩,
      ⟨some 26, (Op.binOp BinOp.lss 3 (Operand.tmp 25) (Operand.const (Value.int IntKind.i64 0)) 3), none⟩,
      ⟨some 27, (Op.move (Operand.tmp 26)), none⟩,
      ⟨some 28, (Op.move (Operand.tmp 1)), some (27, false)⟩,
      ⟨some 29, (Op.move (Operand.tmp 6)), some (27, false)⟩,
      ⟨some 30, (Op.indexAddr 22 (Operand.tmp 28) (Operand.tmp 29)), some (27, false)⟩,
      ⟨some 31, (Op.load 3 (Operand.tmp 30)), some (27, false)⟩,
      ⟨some 32, (Op.move (Operand.tmp 0)), some (27, false)⟩,
      ⟨some 33, (Op.move (Operand.tmp 6)), some (27, false)⟩,
      ⟨some 34, (Op.indexAddr 22 (Operand.tmp 32) (Operand.tmp 33)), some (27, false)⟩,
      ⟨some 35, (Op.load 3 (Operand.tmp 34)), some (27, false)⟩,
      ⟨some 36, (Op.binOp BinOp.geq 3 (Operand.tmp 31) (Operand.tmp 35) 3), some (27, false)⟩,
      ⟨some 37, (Op.pick (Operand.tmp 27) (Operand.const (Value.bool true)) (Operand.tmp 36)), none⟩])
    (.cond (Operand.tmp 37)
      (.seq (.reg false [⟨some 4, (Op.assign (Operand.const (Value.int IntKind.i64 (-1)))), none⟩])
      .ret)
      .skip))
    (.reg false [⟨some 38, (Op.move (Operand.tmp 5)), none⟩,
      ⟨some 39, (Op.move (Operand.tmp 0)), none⟩,
      ⟨some 40, (Op.move (Operand.tmp 6)), none⟩,
      ⟨some 41, (Op.indexAddr 22 (Operand.tmp 39) (Operand.tmp 40)), none⟩,
      ⟨some 42, (Op.load 3 (Operand.tmp 41)), none⟩,
      ⟨some 43, (Op.binOp BinOp.mul 3 (Operand.tmp 38) (Operand.tmp 42) 3), none⟩,
      ⟨some 44, (Op.move (Operand.tmp 1)), none⟩,
      ⟨some 45, (Op.move (Operand.tmp 6)), none⟩,
      ⟨some 46, (Op.indexAddr 22 (Operand.tmp 44) (Operand.tmp 45)), none⟩,
      ⟨some 47, (Op.load 3 (Operand.tmp 46)), none⟩,
      ⟨some 48, (Op.binOp BinOp.add 3 (Operand.tmp 43) (Operand.tmp 47) 3), none⟩,
      ⟨some 5, (Op.assign (Operand.tmp 48)), none⟩]))))
    (.reg false [⟨some 49, (Op.binOp BinOp.add 3 (Operand.tmp 19) (Operand.const (Value.int IntKind.i64 1)) 3), none⟩,
      ⟨some 19, (Op.move (Operand.tmp 49)), none⟩])))))))
  (.seq (.reg false [⟨some 50, (Op.move (Operand.tmp 5)), none⟩,
    ⟨some 4, (Op.assign (Operand.tmp 50)), none⟩])
  .ret)))))
noncomputable def b127 : Code := Try.f127.body.getD .skip
theorem hb127 : Try.f127.body = some b127 := by kernel_rfl
theorem sh127 : shortC A127 b127 = c127 := by kernel_rfl
def rs127 : List ResultVar := [(ResultVar.tmp 4)]
theorem hr127 : Try.f127.results.toList = rs127 := by kernel_rfl
/-! parquetry/parquetryref14.First (3 parameters; calls 20 parquetry/parquetryref14.Devices, 58 parquetry/parquetryref14.Spec, 98 parquetry/parquetryref14.At, 127 parquetry/parquetryref14.Of) -/
def A67 : Ann := { live := fun i => if i = 5 then [0, 1, 7, 31, 32] else if i = 9 then [0, 1, 7, 8, 9, 31, 32, 36, 37] else [], drop := fun i => false }
noncomputable def c67 : Cc :=
  (.seq (.reg false [⟨some 6, (Op.assign (Operand.const (Value.int IntKind.i64 0))), none⟩])
  (.seq (.seq (.reg false [⟨some 11, (Op.move (Operand.tmp 2)), none⟩,
    ⟨some 12, (Op.binOp BinOp.lss 3 (Operand.tmp 11) (Operand.const (Value.int IntKind.i64 0)) 3), none⟩,
    ⟨some 13, (Op.move (Operand.tmp 12)), none⟩,
    ⟨some 14, (Op.move (Operand.tmp 2)), some (13, false)⟩,
    ⟨some 15, (Op.move (Operand.tmp 0)), some (13, false)⟩,
    ⟨some 16, (Op.call { callee := (Callee.value (Operand.func 20)), args := #[(Operand.tmp 15)], argTypes := #[22] }), some (13, false)⟩,
    ⟨some 17, (Op.binOp BinOp.geq 3 (Operand.tmp 14) (Operand.tmp 16) 3), some (13, false)⟩,
    ⟨some 18, (Op.pick (Operand.tmp 13) (Operand.const (Value.bool true)) (Operand.tmp 17)), none⟩,
    ⟨some 19, (Op.move (Operand.tmp 18)), none⟩,
    ⟨some 20, (Op.move (Operand.tmp 0)), some (19, false)⟩,
    ⟨some 21, (Op.move (Operand.tmp 1)), some (19, false)⟩,
    ⟨some 22, (Op.move (Operand.tmp 1)), some (19, false)⟩,
    ⟨some 23, (Op.call { callee := (Callee.builtin Builtin.len), args := #[(Operand.tmp 22)], argTypes := #[22] }), some (19, false)⟩,
    ⟨some 24, (Op.call { callee := (Callee.value (Operand.func 58)), args := #[(Operand.tmp 20), (Operand.tmp 21), (Operand.tmp 23)], argTypes := #[22, 22, 3] }), some (19, false)⟩,
    ⟨some 25, (Op.unOp UnOp.not 4 (Operand.tmp 24)), some (19, false)⟩,
    ⟨some 26, (Op.pick (Operand.tmp 19) (Operand.const (Value.bool true)) (Operand.tmp 25)), none⟩])
  (.cond (Operand.tmp 26)
    (.seq (.reg false [⟨some 6, (Op.assign (Operand.const (Value.int IntKind.i64 (-1)))), none⟩])
    .ret)
    .skip))
  (.seq (.reg false [⟨some 27, (Op.move (Operand.tmp 0)), none⟩,
    ⟨some 28, (Op.move (Operand.tmp 2)), none⟩,
    ⟨some 29, (Op.call { callee := (Callee.value (Operand.func 98)), args := #[(Operand.tmp 27), (Operand.tmp 28)], argTypes := #[22, 3] }), none⟩,
    ⟨some 7, (Op.assign (Operand.tmp 29)), none⟩])
  (.seq (.seq (.reg false [⟨some 30, (Op.move (Operand.tmp 7)), none⟩,
    ⟨some 31, (Op.call { callee := (Callee.builtin Builtin.len), args := #[(Operand.tmp 30)], argTypes := #[22] }), none⟩,
    ⟨some 32, (Op.move (Operand.const (Value.int IntKind.i64 0))), none⟩])
  (.block 0 (.loop [0, 1, 7, 31, 32] false
    (.seq (.reg false [⟨some 33, (Op.binOp BinOp.lss 3 (Operand.tmp 32) (Operand.tmp 31) 3), none⟩])
    (.seq (.cond (Operand.tmp 33)
      .skip
      (.exit 0))
    (.seq (.block 1 (.seq (.reg false [⟨some 34, (Op.move (Operand.tmp 32)), none⟩,
      ⟨some 8, (Op.assign (Operand.tmp 34)), none⟩])
    (.seq (.reg false [⟨some 9, (Op.assign (Operand.const (Value.bool false))), none⟩])
    (.seq (.seq (.reg false [⟨some 35, (Op.move (Operand.tmp 1)), none⟩,
      ⟨some 36, (Op.call { callee := (Callee.builtin Builtin.len), args := #[(Operand.tmp 35)], argTypes := #[22] }), none⟩,
      ⟨some 37, (Op.move (Operand.const (Value.int IntKind.i64 0))), none⟩])
    (.block 2 (.loop [0, 1, 7, 8, 9, 31, 32, 36, 37] false
      (.seq (.reg false [⟨some 38, (Op.binOp BinOp.lss 3 (Operand.tmp 37) (Operand.tmp 36) 3), none⟩])
      (.seq (.cond (Operand.tmp 38)
        .skip
        (.exit 2))
      (.seq (.block 3 (.seq (.reg false [⟨some 39, (Op.move (Operand.tmp 37)), none⟩,
        ⟨some 10, (Op.assign (Operand.tmp 39)), none⟩])
      (.reg false [⟨some 40, (Op.move (Operand.tmp 9)), none⟩,
        ⟨some 41, (Op.move (Operand.tmp 40)), none⟩,
        ⟨some 42, (Op.move (Operand.tmp 1)), some (41, false)⟩,
        ⟨some 43, (Op.move (Operand.tmp 10)), some (41, false)⟩,
        ⟨some 44, (Op.indexAddr 22 (Operand.tmp 42) (Operand.tmp 43)), some (41, false)⟩,
        ⟨some 45, (Op.load 3 (Operand.tmp 44)), some (41, false)⟩,
        ⟨some 46, (Op.move (Operand.tmp 8)), some (41, false)⟩,
        ⟨some 47, (Op.binOp BinOp.eql 3 (Operand.tmp 45) (Operand.tmp 46) 3), some (41, false)⟩,
        ⟨some 48, (Op.pick (Operand.tmp 41) (Operand.const (Value.bool true)) (Operand.tmp 47)), none⟩,
        ⟨some 9, (Op.assign (Operand.tmp 48)), none⟩])))
      (.reg false [⟨some 49, (Op.binOp BinOp.add 3 (Operand.tmp 37) (Operand.const (Value.int IntKind.i64 1)) 3), none⟩,
        ⟨some 37, (Op.move (Operand.tmp 49)), none⟩])))))))
    (.seq (.reg false [⟨some 50, (Op.move (Operand.tmp 9)), none⟩,
      ⟨some 51, (Op.unOp UnOp.not 4 (Operand.tmp 50)), none⟩])
    (.cond (Operand.tmp 51)
      (.reg false [⟨some 52, (Op.move (Operand.tmp 7)), none⟩,
        ⟨some 53, (Op.move (Operand.tmp 8)), none⟩,
        ⟨some 54, (Op.indexAddr 22 (Operand.tmp 52) (Operand.tmp 53)), none⟩,
        ⟨none, (Op.store 3 (Operand.tmp 54) (Operand.const (Value.int IntKind.i64 0))), none⟩])
      .skip))))))
    (.reg false [⟨some 55, (Op.binOp BinOp.add 3 (Operand.tmp 32) (Operand.const (Value.int IntKind.i64 1)) 3), none⟩,
      ⟨some 32, (Op.move (Operand.tmp 55)), none⟩])))))))
  (.seq (.reg false [⟨some 56, (Op.move (Operand.tmp 0)), none⟩,
    ⟨some 57, (Op.move (Operand.tmp 7)), none⟩,
    ⟨some 58, (Op.call { callee := (Callee.value (Operand.func 127)), args := #[(Operand.tmp 56), (Operand.tmp 57)], argTypes := #[22, 22] }), none⟩,
    ⟨some 6, (Op.assign (Operand.tmp 58)), none⟩])
  .ret)))))
noncomputable def b67 : Code := Try.f67.body.getD .skip
theorem hb67 : Try.f67.body = some b67 := by kernel_rfl
theorem sh67 : shortC A67 b67 = c67 := by kernel_rfl
def rs67 : List ResultVar := [(ResultVar.tmp 6)]
theorem hr67 : Try.f67.results.toList = rs67 := by kernel_rfl
/- Walks: where a device is, in the document; slices.Equal; the least device that has the same part. -/
def F98 (args : List AV) (H : Hp) : Option (AV × Hp) := match args with
  | [a, .int .i64 d] => (ints H a).map fun sz => if d < 0 ∨ devs sz ≤ d then (.nilS, H) else mkF H (meshAt sz d)
  | _ => none
set_option maxHeartbeats 1000000 in
theorem snd98 : Sound Try.prog 98 (FSem.eff F98).run := by
  refine sound_of hT (EOK_cons snd20 (EOK_nil _)) mixed A98 Try.func98 hb98 (by kernel_rfl) (by kernel_rfl) (by kernel_rfl) (by kernel_rfl) sh98 2 (by kernel_rfl) rs98 hr98 ?_
  intro args H r H' hw h
  have hv : F98 args H = some (r, H') := h
  clear h
  unfold F98 at hv
  split at hv
  · rename_i v d
    obtain ⟨l, hl, hv⟩ := Option.map_eq_some_iff.1 hv
    have hlen := alenS_ints hl
    have hrd := rDevs_eq l
    have hb := ints_len hl
    have hix := aidxS_ints hl .i64
    have hld := fun {H1 : Hp} (he : Pre H H1) => aload_nth T3 rfl (ints_ext he hl)
    refine ⟨rfl, go ?_⟩
    unfold c98
    simp only [argSl]
    simp only [← aidx22, ← alen22] at hix hlen
    replace hv := Hide.mk hv
    repeat' (first | apply goSeq | apply goReg | apply goSeqN | apply goSeqR | apply goSkip | apply goRet | apply goNil | apply goBlock | apply goExit | apply goBlkN | apply goBlkR | apply goBlkE | apply goSeqE | apply goLoopR | apply goLoopE | refine xOp ?_ | refine xOp0 ?_ | refine xYes ?_ | refine xNo ?_ | refine xNoU ?_ | refine xIfT ?_ | refine xIfF ?_ | refine xIf ?_ ?_ | refine xSplit ?_ ?_ | refine xIfQ ?_ ?_ | refine xSplitQ ?_ ?_ | refine xBlkX ?_ | intro _)
    · rename_i h1
      replace hv := hv.out
      rw [if_pos (.inl h1)] at hv
      exact goEndS (l := []) hw (Ext.refl hw) (.inl ⟨rfl, rfl⟩) (by simp) (by simp [rs98]) rfl hv
    · rename_i h1 h2
      replace hv := hv.out
      rw [if_pos (.inr h2)] at hv
      exact goEndS (l := []) hw (Ext.refl hw) (.inl ⟨rfl, rfl⟩) (by simp) (by simp [rs98]) rfl hv
    · rename_i h1 h2
      replace hv := hv.out
      rw [if_neg (by omega)] at hv
      have hm : meshOK l = true := by
        rcases hmm : meshOK l with _ | _
        · exfalso; simp [devs, hmm] at h2; omega
        · rfl
      obtain ⟨h3, hpos⟩ := meshOK_pos hm
      obtain ⟨u, H1, e, ho, he⟩ := make_own (Ext.refl hw) l.length (by omega)
      refine goOp (v := u) (H' := H1) rfl (by simp; exact e) ?_
      replace hv := Hide.mk hv
      repeat' (first | apply goSeq | apply goReg | apply goSeqN | apply goSeqR | apply goSkip | apply goRet | apply goNil | apply goBlock | apply goExit | apply goBlkN | apply goBlkR | apply goBlkE | apply goSeqE | apply goLoopR | apply goLoopE | refine xOp ?_ | refine xOp0 ?_ | refine xYes ?_ | refine xNo ?_ | refine xNoU ?_ | refine xIfT ?_ | refine xIfF ?_ | refine xIf ?_ ?_ | refine xSplit ?_ ?_ | refine xIfQ ?_ ?_ | refine xSplitQ ?_ ?_ | refine xBlkX ?_ | intro _)
      have hwl : w ((l.length : Int) - 1) = (l.length : Int) - 1 := w_id (by omega)
      rw [hwl]
      refine goLoop (fun m s1 H1 => Ext H H1 ∧ ∃ (d1 : Int) (out : List Int) (u : AV), m ≤ l.length ∧ get s1 0 = v ∧ get s1 1 = .int .i64 d1 ∧ get s1 5 = u ∧ get s1 6 = .int .i64 ((m : Int) - 1) ∧ OwnF H H1 u out ∧ out.length = l.length ∧ atW l m d1 out = meshAt l d) l.length ?_ ?_
      · exact ⟨he, d, _, u, Nat.le_refl _, rfl, rfl, rfl, rfl, ho, by simp, rfl⟩
      · clear he ho e hwl h1 h2 hm
        rintro m s1 H1 ⟨he, d1, out, u, hi, g1, g2, g3, g4, ho, hol, hgo⟩
        have hixu := aidxS_ints (ints_of_ownF ho (by omega)) .i64
        simp only [← aidx22] at hixu
        have hl1 := hld he.pre
        cases m with
        | zero =>
          simp only [cut_cons, cut_nil, g1, g2, g3, g4]
          clear g1 g2 g3 g4
          replace ho := Hide.mk ho
          replace hgo := Hide.mk hgo
          repeat' (first | apply goSeq | apply goReg | apply goSeqN | apply goSeqR | apply goSkip | apply goRet | apply goNil | apply goBlock | apply goExit | apply goBlkN | apply goBlkR | apply goBlkE | apply goSeqE | apply goLoopR | apply goLoopE | refine xOp ?_ | refine xOp0 ?_ | refine xYes ?_ | refine xNo ?_ | refine xNoU ?_ | refine xIfT ?_ | refine xIfF ?_ | refine xIf ?_ ?_ | refine xSplit ?_ ?_ | refine xIfQ ?_ ?_ | refine xSplitQ ?_ ?_ | refine xBlkX ?_ | intro _)
          refine goEndF hw he ho.out (by simp) (by simp [rs98]) rfl ?_
          rw [← hv.out, ← hgo.out]
          rfl
        | succ m =>
          rw [show (((m + 1 : Nat) : Int) - 1) = (m : Int) by omega] at g4
          simp only [cut_cons, cut_nil, g1, g2, g3, g4]
          clear g1 g2 g3 g4
          have hm0 : (0 : Int) ≤ m := Int.natCast_nonneg m
          have hml : m < l.length := by omega
          have hne : ¬ nth l m = 0 := by have := hpos m hml; omega
          have hwm : w ((m : Int) - 1) = (m : Int) - 1 := w_id (by omega)
          replace ho := Hide.mk ho
          replace hgo := Hide.mk hgo
          repeat' (first | apply goSeq | apply goReg | apply goSeqN | apply goSeqR | apply goSkip | apply goRet | apply goNil | apply goBlock | apply goExit | apply goBlkN | apply goBlkR | apply goBlkE | apply goSeqE | apply goLoopR | apply goLoopE | refine xOp ?_ | refine xOp0 ?_ | refine xYes ?_ | refine xNo ?_ | refine xNoU ?_ | refine xIfT ?_ | refine xIfF ?_ | refine xIf ?_ ?_ | refine xSplit ?_ ?_ | refine xIfQ ?_ ?_ | refine xSplitQ ?_ ?_ | refine xBlkX ?_ | intro _)
          obtain ⟨H2, e, ho', he'⟩ := store_own hw he ho.out m (by omega) (d1.tmod (nth l m))
          have hl2 := hld he'.pre
          refine goOp0 (v := .bad) (H' := H2) rfl (by simp [e]) ?_
          replace ho' := Hide.mk ho'
          clear e
          repeat' (first | apply goSeq | apply goReg | apply goSeqN | apply goSeqR | apply goSkip | apply goRet | apply goNil | apply goBlock | apply goExit | apply goBlkN | apply goBlkR | apply goBlkE | apply goSeqE | apply goLoopR | apply goLoopE | refine xOp ?_ | refine xOp0 ?_ | refine xYes ?_ | refine xNo ?_ | refine xNoU ?_ | refine xIfT ?_ | refine xIfF ?_ | refine xIf ?_ ?_ | refine xSplit ?_ ?_ | refine xIfQ ?_ ?_ | refine xSplitQ ?_ ?_ | refine xBlkX ?_ | intro _)
          exact goLoopN m (by omega) ⟨he', _, _, u, by omega, rfl, rfl, rfl, rfl, ho'.out, by simp [hol], by rw [← hgo.out]; rfl⟩
  · cases hv
@[simp] theorem F98_at (a : AV) (d : Int) (H : Hp) : F98 [a, .int .i64 d] H = (ints H a).map fun sz => if d < 0 ∨ devs sz ≤ d then (.nilS, H) else mkF H (meshAt sz d) := rfl
/- Functions in short form. -/
/-! parquetry/parquetryref14.may (3 parameters; calls 56 parquetry/parquetryref14.Right, 58 parquetry/parquetryref14.Spec, 101 parquetry/parquetryref1.Right) -/
def A85 : Ann := { drop := fun i => false }
noncomputable def c85 : Cc :=
  (.seq (.reg false [⟨some 6, (Op.assign (Operand.const (Value.bool false))), none⟩])
  (.seq (.reg false [⟨some 7, (Op.move (Operand.tmp 0)), none⟩,
    ⟨some 8, (Op.call { callee := (Callee.value (Operand.func 101)), args := #[(Operand.tmp 7)], argTypes := #[22] }), none⟩,
    ⟨some 9, (Op.move (Operand.tmp 8)), none⟩,
    ⟨some 10, (Op.move (Operand.tmp 1)), some (9, true)⟩,
    ⟨some 11, (Op.call { callee := (Callee.value (Operand.func 56)), args := #[(Operand.tmp 10)], argTypes := #[22] }), some (9, true)⟩,
    ⟨some 12, (Op.pick (Operand.tmp 9) (Operand.tmp 11) (Operand.const (Value.bool false))), none⟩,
    ⟨some 13, (Op.move (Operand.tmp 12)), none⟩,
    ⟨some 14, (Op.move (Operand.tmp 1)), some (13, true)⟩,
    ⟨some 15, (Op.move (Operand.tmp 2)), some (13, true)⟩,
    ⟨some 16, (Op.move (Operand.tmp 0)), some (13, true)⟩,
    ⟨some 17, (Op.call { callee := (Callee.builtin Builtin.len), args := #[(Operand.tmp 16)], argTypes := #[22] }), some (13, true)⟩,
    ⟨some 18, (Op.call { callee := (Callee.value (Operand.func 58)), args := #[(Operand.tmp 14), (Operand.tmp 15), (Operand.tmp 17)], argTypes := #[22, 22, 3] }), some (13, true)⟩,
    ⟨some 19, (Op.pick (Operand.tmp 13) (Operand.tmp 18) (Operand.const (Value.bool false))), none⟩,
    ⟨some 6, (Op.assign (Operand.tmp 19)), none⟩])
  .ret))
noncomputable def b85 : Code := Try.f85.body.getD .skip
theorem hb85 : Try.f85.body = some b85 := by kernel_rfl
theorem sh85 : shortC A85 b85 = c85 := by kernel_rfl
def rs85 : List ResultVar := [(ResultVar.tmp 6)]
theorem hr85 : Try.f85.results.toList = rs85 := by kernel_rfl
/-! parquetry/parquetryref14.Width (2 parameters; calls none) -/
def A140 : Ann := { drop := fun i => false }
noncomputable def c140 : Cc :=
  (.seq (.reg false [⟨some 4, (Op.assign (Operand.const (Value.int IntKind.i64 0))), none⟩])
  (.seq (.seq (.reg false [⟨some 6, (Op.move (Operand.tmp 0)), none⟩,
    ⟨some 7, (Op.binOp BinOp.lss 3 (Operand.tmp 6) (Operand.const (Value.int IntKind.i64 0)) 3), none⟩,
    ⟨some 8, (Op.move (Operand.tmp 7)), none⟩,
    ⟨some 9, (Op.move (Operand.tmp 1)), some (8, false)⟩,
    ⟨some 10, (Op.binOp BinOp.lss 3 (Operand.tmp 9) (Operand.const (Value.int IntKind.i64 1)) 3), some (8, false)⟩,
    ⟨some 11, (Op.pick (Operand.tmp 8) (Operand.const (Value.bool true)) (Operand.tmp 10)), none⟩])
  (.cond (Operand.tmp 11)
    (.seq (.reg false [⟨some 4, (Op.assign (Operand.const (Value.int IntKind.i64 0))), none⟩])
    .ret)
    .skip))
  (.seq (.reg false [⟨some 12, (Op.move (Operand.tmp 0)), none⟩,
    ⟨some 13, (Op.move (Operand.tmp 1)), none⟩,
    ⟨some 14, (Op.binOp BinOp.quo 3 (Operand.tmp 12) (Operand.tmp 13) 3), none⟩,
    ⟨some 5, (Op.assign (Operand.tmp 14)), none⟩])
  (.seq (.seq (.reg false [⟨some 15, (Op.move (Operand.tmp 0)), none⟩,
    ⟨some 16, (Op.move (Operand.tmp 1)), none⟩,
    ⟨some 17, (Op.binOp BinOp.rem 3 (Operand.tmp 15) (Operand.tmp 16) 3), none⟩,
    ⟨some 18, (Op.binOp BinOp.gtr 3 (Operand.tmp 17) (Operand.const (Value.int IntKind.i64 0)) 3), none⟩])
  (.cond (Operand.tmp 18)
    (.reg false [⟨some 19, (Op.move (Operand.tmp 5)), none⟩,
      ⟨some 20, (Op.binOp BinOp.add 3 (Operand.tmp 19) (Operand.const (Value.int IntKind.i64 1)) 3), none⟩,
      ⟨some 5, (Op.assign (Operand.tmp 20)), none⟩])
    .skip))
  (.seq (.reg false [⟨some 21, (Op.move (Operand.tmp 5)), none⟩,
    ⟨some 4, (Op.assign (Operand.tmp 21)), none⟩])
  .ret)))))
noncomputable def b140 : Code := Try.f140.body.getD .skip
theorem hb140 : Try.f140.body = some b140 := by kernel_rfl
theorem sh140 : shortC A140 b140 = c140 := by kernel_rfl
def rs140 : List ResultVar := [(ResultVar.tmp 4)]
theorem hr140 : Try.f140.results.toList = rs140 := by kernel_rfl
/-! parquetry/parquetryref14.Cut (3 parameters; calls 140 parquetry/parquetryref14.Width) -/
def A99 : Ann := { drop := fun i => false }
noncomputable def c99 : Cc :=
  (.seq (.reg false [⟨some 6, (Op.assign (Operand.const (Value.int IntKind.i64 0))), none⟩,
    ⟨some 7, (Op.assign (Operand.const (Value.int IntKind.i64 0))), none⟩])
  (.seq (.seq (.reg false [⟨some 11, (Op.move (Operand.tmp 0)), none⟩,
    ⟨some 12, (Op.binOp BinOp.lss 3 (Operand.tmp 11) (Operand.const (Value.int IntKind.i64 0)) 3), none⟩,
    ⟨some 13, (Op.move (Operand.tmp 12)), none⟩,
    ⟨some 14, (Op.move (Operand.tmp 1)), some (13, false)⟩,
    ⟨some 15, (Op.binOp BinOp.lss 3 (Operand.tmp 14) (Operand.const (Value.int IntKind.i64 1)) 3), some (13, false)⟩,
    ⟨some 16, (Op.pick (Operand.tmp 13) (Operand.const (Value.bool true)) (Operand.tmp 15)), none⟩,
    ⟨some 17, (Op.move (Operand.tmp 16)), none⟩,
    ⟨some 18, (Op.move (Operand.tmp 2)), some (17, false)⟩,
    ⟨some 19, (Op.binOp BinOp.lss 3 (Operand.tmp 18) (Operand.const (Value.int IntKind.i64 0)) 3), some (17, false)⟩,
    ⟨some 20, (Op.pick (Operand.tmp 17) (Operand.const (Value.bool true)) (Operand.tmp 19)), none⟩,
    ⟨some 21, (Op.move (Operand.tmp 20)), none⟩,
    ⟨some 22, (Op.move (Operand.tmp 2)), some (21, false)⟩,
    ⟨some 23, (Op.move (Operand.tmp 1)), some (21, false)⟩,
    ⟨some 24, (Op.binOp BinOp.geq 3 (Operand.tmp 22) (Operand.tmp 23) 3), some (21, false)⟩,
    ⟨some 25, (Op.pick (Operand.tmp 21) (Operand.const (Value.bool true)) (Operand.tmp 24)), none⟩])
  (.cond (Operand.tmp 25)
    (.seq (.reg false [⟨some 6, (Op.assign (Operand.const (Value.int IntKind.i64 0))), none⟩,
      ⟨some 7, (Op.assign (Operand.const (Value.int IntKind.i64 0))), none⟩])
    .ret)
    .skip))
  (.seq (.reg false [⟨some 26, (Op.move (Operand.tmp 0)), none⟩,
    ⟨some 27, (Op.move (Operand.tmp 1)), none⟩,
    ⟨some 28, (Op.call { callee := (Callee.value (Operand.func 140)), args := #[(Operand.tmp 26), (Operand.tmp 27)], argTypes := #[3, 3] }), none⟩,
    ⟨some 8, (Op.assign (Operand.tmp 28)), none⟩])
  (.seq (.reg false [⟨some 29, (Op.move (Operand.tmp 0)), none⟩,
    ⟨some 9, (Op.assign (Operand.tmp 29)), none⟩])
  (.seq (.seq (.reg false [⟨some 30, (Op.move (Operand.tmp 8)), none⟩,
    ⟨some 31, (Op.binOp BinOp.eql 3 (Operand.tmp 30) (Operand.const (Value.int IntKind.i64 0)) 3), none⟩,
    ⟨some 32, (Op.move (Operand.tmp 31)), none⟩,
    ⟨some 33, (Op.move (Operand.tmp 2)), some (32, false)⟩,
    ⟨some 34, (Op.move (Operand.tmp 0)), some (32, false)⟩,
    ⟨some 35, (Op.move (Operand.tmp 8)), some (32, false)⟩,
    ⟨some 36, (Op.binOp BinOp.quo 3 (Operand.tmp 34) (Operand.tmp 35) 3), some (32, false)⟩,
    ⟨some 37, (Op.binOp BinOp.leq 3 (Operand.tmp 33) (Operand.tmp 36) 3), some (32, false)⟩,
    ⟨some 38, (Op.pick (Operand.tmp 32) (Operand.const (Value.bool true)) (Operand.tmp 37)), none⟩])
  (.cond (Operand.tmp 38)
    (.reg false [⟨some 39, (Op.move (Operand.tmp 2)), none⟩,
      ⟨some 40, (Op.move (Operand.tmp 8)), none⟩,
      ⟨some 41, (Op.binOp BinOp.mul 3 (Operand.tmp 39) (Operand.tmp 40) 3), none⟩,
      ⟨some 42, (Op.move (Operand.tmp 0)), none⟩,
      ⟨some 43, (Op.call { callee := (Callee.builtin Builtin.min), args := #[(Operand.tmp 41), (Operand.tmp 42)], argTypes := #[3, 3] }), none⟩,
      ⟨some 9, (Op.assign (Operand.tmp 43)), none⟩])
    .skip))
  (.seq (.reg false [⟨some 44, (Op.move (Operand.tmp 0)), none⟩,
    ⟨some 10, (Op.assign (Operand.tmp 44)), none⟩])
  (.seq (.seq (.reg false [⟨some 45, (Op.move (Operand.tmp 8)), none⟩,
    ⟨some 46, (Op.move (Operand.tmp 0)), none⟩,
    ⟨some 47, (Op.move (Operand.tmp 9)), none⟩,
    ⟨some 48, (Op.binOp BinOp.sub 3 (Operand.tmp 46) (Operand.tmp 47) 3), none⟩,
    ⟨some 49, (Op.binOp BinOp.leq 3 (Operand.tmp 45) (Operand.tmp 48) 3), none⟩])
  (.cond (Operand.tmp 49)
    (.reg false [⟨some 50, (Op.move (Operand.tmp 9)), none⟩,
      ⟨some 51, (Op.move (Operand.tmp 8)), none⟩,
      ⟨some 52, (Op.binOp BinOp.add 3 (Operand.tmp 50) (Operand.tmp 51) 3), none⟩,
      ⟨some 10, (Op.assign (Operand.tmp 52)), none⟩])
    .skip))
  (.seq (.reg false [⟨some 53, (Op.move (Operand.tmp 9)), none⟩,
    ⟨some 54, (Op.move (Operand.tmp 10)), none⟩,
    ⟨some 6, (Op.assign (Operand.tmp 53)), none⟩,
    ⟨some 7, (Op.assign (Operand.tmp 54)), none⟩])
  .ret))))))))
noncomputable def b99 : Code := Try.f99.body.getD .skip
theorem hb99 : Try.f99.body = some b99 := by kernel_rfl
theorem sh99 : shortC A99 b99 = c99 := by kernel_rfl
def rs99 : List ResultVar := [(ResultVar.tmp 6), (ResultVar.tmp 7)]
theorem hr99 : Try.f99.results.toList = rs99 := by kernel_rfl
/-! parquetry/parquetryref14.Tile (4 parameters; calls 20 parquetry/parquetryref14.Devices, 85 parquetry/parquetryref14.may, 98 parquetry/parquetryref14.At, 99 parquetry/parquetryref14.Cut) -/
def A40 : Ann := { live := fun i => if i = 6 then [0, 1, 2, 10, 11, 12, 35, 36] else [], drop := fun i => false }
noncomputable def c40 : Cc :=
  (.seq (.reg false [⟨some 8, (Op.assign (Operand.const (Value.slice none 0 0))), none⟩,
    ⟨some 9, (Op.assign (Operand.const (Value.slice none 0 0))), none⟩])
  (.seq (.seq (.reg false [⟨some 16, (Op.move (Operand.tmp 0)), none⟩,
    ⟨some 17, (Op.move (Operand.tmp 1)), none⟩,
    ⟨some 18, (Op.move (Operand.tmp 2)), none⟩,
    ⟨some 19, (Op.call { callee := (Callee.value (Operand.func 85)), args := #[(Operand.tmp 16), (Operand.tmp 17), (Operand.tmp 18)], argTypes := #[22, 22, 22] }), none⟩,
    ⟨some 20, (Op.unOp UnOp.not 4 (Operand.tmp 19)), none⟩,
    ⟨some 21, (Op.move (Operand.tmp 20)), none⟩,
    ⟨some 22, (Op.move (Operand.tmp 3)), some (21, false)⟩,
    ⟨some 23, (Op.binOp BinOp.lss 3 (Operand.tmp 22) (Operand.const (Value.int IntKind.i64 0)) 3), some (21, false)⟩,
    ⟨some 24, (Op.pick (Operand.tmp 21) (Operand.const (Value.bool true)) (Operand.tmp 23)), none⟩,
    ⟨some 25, (Op.move (Operand.tmp 24)), none⟩,
    ⟨some 26, (Op.move (Operand.tmp 3)), some (25, false)⟩,
    ⟨some 27, (Op.move (Operand.tmp 1)), some (25, false)⟩,
    ⟨some 28, (Op.call { callee := (Callee.value (Operand.func 20)), args := #[(Operand.tmp 27)], argTypes := #[22] }), some (25, false)⟩,
    ⟨some 29, (Op.binOp BinOp.geq 3 (Operand.tmp 26) (Operand.tmp 28) 3), some (25, false)⟩,
    ⟨some 30, (Op.pick (Operand.tmp 25) (Operand.const (Value.bool true)) (Operand.tmp 29)), none⟩])
  (.cond (Operand.tmp 30)
    (.seq (.reg false [⟨some 8, (Op.assign (Operand.const (Value.slice none 0 0))), none⟩,
      ⟨some 9, (Op.assign (Operand.const (Value.slice none 0 0))), none⟩])
    .ret)
    .skip))
  (.seq (.reg false [⟨some 31, (Op.move (Operand.tmp 1)), none⟩,
    ⟨some 32, (Op.move (Operand.tmp 3)), none⟩,
    ⟨some 33, (Op.call { callee := (Callee.value (Operand.func 98)), args := #[(Operand.tmp 31), (Operand.tmp 32)], argTypes := #[22, 3] }), none⟩,
    ⟨some 10, (Op.assign (Operand.tmp 33)), none⟩])
  (.seq (.reg false [⟨some 11, (Op.assign (Operand.const (Value.slice none 0 0))), none⟩,
    ⟨some 12, (Op.assign (Operand.const (Value.slice none 0 0))), none⟩])
  (.seq (.seq (.reg false [⟨some 34, (Op.move (Operand.tmp 0)), none⟩,
    ⟨some 35, (Op.call { callee := (Callee.builtin Builtin.len), args := #[(Operand.tmp 34)], argTypes := #[22] }), none⟩,
    ⟨some 36, (Op.move (Operand.const (Value.int IntKind.i64 0))), none⟩])
  (.block 0 (.loop [0, 1, 2, 10, 11, 12, 35, 36] false
    (.seq (.reg false [⟨some 37, (Op.binOp BinOp.lss 3 (Operand.tmp 36) (Operand.tmp 35) 3), none⟩])
    (.seq (.cond (Operand.tmp 37)
      .skip
      (.exit 0))
    (.seq (.block 1 (.seq (.reg false [⟨some 38, (Op.move (Operand.tmp 36)), none⟩,
      ⟨some 13, (Op.assign (Operand.tmp 38)), none⟩])
    (.seq (.reg false [⟨some 39, (Op.move (Operand.tmp 0)), none⟩,
      ⟨some 40, (Op.move (Operand.tmp 13)), none⟩,
      ⟨some 41, (Op.indexAddr 22 (Operand.tmp 39) (Operand.tmp 40)), none⟩,
      ⟨some 42, (Op.load 3 (Operand.tmp 41)), none⟩,
      ⟨some 14, (Op.assign (Operand.const (Value.int IntKind.i64 0))), none⟩,
      ⟨some 15, (Op.assign (Operand.tmp 42)), none⟩])
    (.seq (.seq (.reg false [⟨some 43, (Op.move (Operand.tmp 2)), none⟩,
      ⟨some 44, (Op.move (Operand.tmp 13)), none⟩,
      ⟨some 45, (Op.indexAddr 22 (Operand.tmp 43) (Operand.tmp 44)), none⟩,
      ⟨some 46, (Op.load 3 (Operand.tmp 45)), none⟩,
      ⟨some 47, (Op.binOp BinOp.geq 3 (Operand.tmp 46) (Operand.const (Value.int IntKind.i64 0)) 3), none⟩])
    (.cond (Operand.tmp 47)
      (.reg false [⟨some 49, (Op.move (Operand.tmp 0)), none⟩,
        ⟨some 50, (Op.move (Operand.tmp 13)), none⟩,
        ⟨some 51, (Op.indexAddr 22 (Operand.tmp 49) (Operand.tmp 50)), none⟩,
        ⟨some 52, (Op.load 3 (Operand.tmp 51)), none⟩,
        ⟨some 53, (Op.move (Operand.tmp 1)), none⟩,
        ⟨some 54, (Op.move (Operand.tmp 2)), none⟩,
        ⟨some 55, (Op.move (Operand.tmp 13)), none⟩,
        ⟨some 56, (Op.indexAddr 22 (Operand.tmp 54) (Operand.tmp 55)), none⟩,
        ⟨some 57, (Op.load 3 (Operand.tmp 56)), none⟩,
        ⟨some 58, (Op.indexAddr 22 (Operand.tmp 53) (Operand.tmp 57)), none⟩,
        ⟨some 59, (Op.load 3 (Operand.tmp 58)), none⟩,
        ⟨some 60, (Op.move (Operand.tmp 10)), none⟩,
        ⟨some 61, (Op.move (Operand.tmp 2)), none⟩,
        ⟨some 62, (Op.move (Operand.tmp 13)), none⟩,
        ⟨some 63, (Op.indexAddr 22 (Operand.tmp 61) (Operand.tmp 62)), none⟩,
        ⟨some 64, (Op.load 3 (Operand.tmp 63)), none⟩,
        ⟨some 65, (Op.indexAddr 22 (Operand.tmp 60) (Operand.tmp 64)), none⟩,
        ⟨some 66, (Op.load 3 (Operand.tmp 65)), none⟩,
        ⟨some 67, (Op.call { callee := (Callee.value (Operand.func 99)), args := #[(Operand.tmp 52), (Operand.tmp 59), (Operand.tmp 66)], argTypes := #[3, 3, 3] }), none⟩,
        ⟨some 48, (Op.move (Operand.tmp 67)), none⟩,
        ⟨some 68, (Op.extract (Operand.tmp 48) 0), none⟩,
        ⟨some 69, (Op.extract (Operand.tmp 48) 1), none⟩,
        ⟨some 14, (Op.assign (Operand.tmp 68)), none⟩,
        ⟨some 15, (Op.assign (Operand.tmp 69)), none⟩])
      .skip))
    (.reg false [⟨some 70, (Op.move (Operand.tmp 11)), none⟩,
      ⟨some 71, (Op.move (Operand.tmp 14)), none⟩,
      ⟨some 72, (Op.buildSlice 22 1 #[(0, (Operand.tmp 71))]), none⟩,
      ⟨some 73, (Op.call { callee := (Callee.builtin Builtin.append), args := #[(Operand.tmp 70), (Operand.tmp 72)], argTypes := #[22, 22] }), none⟩,
      ⟨some 74, (Op.move (Operand.tmp 12)), none⟩,
      ⟨some 75, (Op.move (Operand.tmp 15)), none⟩,
      ⟨some 76, (Op.move (Operand.tmp 14)), none⟩,
      ⟨some 77, (Op.binOp BinOp.sub 3 (Operand.tmp 75) (Operand.tmp 76) 3), none⟩,
      ⟨some 78, (Op.buildSlice 22 1 #[(0, (Operand.tmp 77))]), none⟩,
      ⟨some 79, (Op.call { callee := (Callee.builtin Builtin.append), args := #[(Operand.tmp 74), (Operand.tmp 78)], argTypes := #[22, 22] }), none⟩,
      ⟨some 11, (Op.assign (Operand.tmp 73)), none⟩,
      ⟨some 12, (Op.assign (Operand.tmp 79)), none⟩])))))
    (.reg false [⟨some 80, (Op.binOp BinOp.add 3 (Operand.tmp 36) (Operand.const (Value.int IntKind.i64 1)) 3), none⟩,
      ⟨some 36, (Op.move (Operand.tmp 80)), none⟩])))))))
  (.seq (.reg false [⟨some 81, (Op.move (Operand.tmp 11)), none⟩,
    ⟨some 82, (Op.move (Operand.tmp 12)), none⟩,
    ⟨some 8, (Op.assign (Operand.tmp 81)), none⟩,
    ⟨some 9, (Op.assign (Operand.tmp 82)), none⟩])
  .ret))))))
noncomputable def b40 : Code := Try.f40.body.getD .skip
theorem hb40 : Try.f40.body = some b40 := by kernel_rfl
theorem sh40 : shortC A40 b40 = c40 := by kernel_rfl
def rs40 : List ResultVar := [(ResultVar.tmp 8), (ResultVar.tmp 9)]
theorem hr40 : Try.f40.results.toList = rs40 := by kernel_rfl
/-! parquetry/parquetryref1.Place (2 parameters; calls 100 parquetry/parquetryref1.Size) -/
def A41 : Ann := { live := fun i => if i = 5 then [0, 1, 5, 6] else [], drop := fun i => false }
noncomputable def c41 : Cc :=
  (.seq (.reg false [⟨some 4, (Op.assign (Operand.const (Value.slice none 0 0))), none⟩])
  (.seq (.seq (.reg false [⟨some 7, (Op.move (Operand.tmp 1)), none⟩,
    ⟨some 8, (Op.binOp BinOp.lss 3 (Operand.tmp 7) (Operand.const (Value.int IntKind.i64 0)) 3), none⟩,
    ⟨some 9, (Op.move (Operand.tmp 8)), none⟩,
    ⟨some 10, (Op.move (Operand.tmp 1)), some (9, false)⟩,
    ⟨some 11, (Op.move (Operand.tmp 0)), some (9, false)⟩,
    ⟨some 12, (Op.call { callee := (Callee.value (Operand.func 100)), args := #[(Operand.tmp 11)], argTypes := #[22] }), some (9, false)⟩,
    ⟨some 13, (Op.binOp BinOp.geq 3 (Operand.tmp 10) (Operand.tmp 12) 3), some (9, false)⟩,
    ⟨some 14, (Op.pick (Operand.tmp 9) (Operand.const (Value.bool true)) (Operand.tmp 13)), none⟩])
  (.cond (Operand.tmp 14)
    (.seq (.reg false [⟨some 4, (Op.assign (Operand.const (Value.slice none 0 0))), none⟩])
    .ret)
    .skip))
  (.seq (.reg false [⟨some 15, (Op.move (Operand.tmp 0)), none⟩,
    ⟨some 16, (Op.call { callee := (Callee.builtin Builtin.len), args := #[(Operand.tmp 15)], argTypes := #[22] }), none⟩,
    ⟨some 17, (Op.makeSlice 22 (Operand.tmp 16) (Operand.tmp 16)), none⟩,
    ⟨some 5, (Op.assign (Operand.tmp 17)), none⟩])
  (.seq (.seq (.reg false [⟨some 18, (Op.move (Operand.tmp 0)), none⟩,
    ⟨some 19, (Op.call { callee := (Callee.builtin Builtin.len), args := #[(Operand.tmp 18)], argTypes := #[22] }), none⟩,
    ⟨some 20, (Op.binOp BinOp.sub 3 (Operand.tmp 19) (Operand.const (Value.int IntKind.i64 1)) 3), none⟩,
    ⟨some 6, (Op.assign (Operand.tmp 20)), none⟩])
  (.block 0 (.loop [0, 1, 5, 6] false
    (.seq (.seq (.reg false [⟨some 21, (Op.move (Operand.tmp 6)), none⟩,
      ⟨some 22, (Op.binOp BinOp.geq 3 (Operand.tmp 21) (Operand.const (Value.int IntKind.i64 0)) 3), none⟩])
    (.cond (Operand.tmp 22)
      .skip
      (.exit 0)))
    (.seq (.block 1 (.seq (.reg false [⟨some 25, (Op.move (Operand.tmp 5)), none⟩,
      ⟨some 26, (Op.move (Operand.tmp 6)), none⟩,
      ⟨some 27, (Op.move (Operand.tmp 1)), none⟩,
      ⟨some 28, (Op.move (Operand.tmp 0)), none⟩,
      ⟨some 29, (Op.move (Operand.tmp 6)), none⟩,
      ⟨some 30, (Op.indexAddr 22 (Operand.tmp 28) (Operand.tmp 29)), none⟩,
      ⟨some 31, (Op.load 3 (Operand.tmp 30)), none⟩,
      ⟨some 32, (Op.binOp BinOp.rem 3 (Operand.tmp 27) (Operand.tmp 31) 3), none⟩,
      ⟨some 33, (Op.indexAddr 22 (Operand.tmp 25) (Operand.tmp 26)), none⟩,
      ⟨none, (Op.store 3 (Operand.tmp 33) (Operand.tmp 32)), none⟩])
    (.reg false [⟨some 34, (Op.move (Operand.tmp 1)), none⟩,
      ⟨some 35, (Op.move (Operand.tmp 0)), none⟩,
      ⟨some 36, (Op.move (Operand.tmp 6)), none⟩,
      ⟨some 37, (Op.indexAddr 22 (Operand.tmp 35) (Operand.tmp 36)), none⟩,
      ⟨some 38, (Op.load 3 (Operand.tmp 37)), none⟩,
      ⟨some 39, (Op.binOp BinOp.quo 3 (Operand.tmp 34) (Operand.tmp 38) 3), none⟩,
      ⟨some 1, (Op.assign (Operand.tmp 39)), none⟩])))
    (.reg false [⟨some 23, (Op.move (Operand.tmp 6)), none⟩,
      ⟨some 24, (Op.binOp BinOp.sub 3 (Operand.tmp 23) (Operand.const (Value.int IntKind.i64 1)) 3), none⟩,
      ⟨some 6, (Op.assign (Operand.tmp 24)), none⟩]))))))
  (.seq (.reg false [⟨some 40, (Op.move (Operand.tmp 5)), none⟩,
    ⟨some 4, (Op.assign (Operand.tmp 40)), none⟩])
  .ret)))))
noncomputable def b41 : Code := Try.f41.body.getD .skip
theorem hb41 : Try.f41.body = some b41 := by kernel_rfl
theorem sh41 : shortC A41 b41 = c41 := by kernel_rfl
def rs41 : List ResultVar := [(ResultVar.tmp 4)]
theorem hr41 : Try.f41.results.toList = rs41 := by kernel_rfl
/-! parquetry/parquetryref1.Index (2 parameters; calls 101 parquetry/parquetryref1.Right) -/
def A42 : Ann := { live := fun i => if i = 5 then [0, 1, 5, 6] else [], drop := fun i => false }
noncomputable def c42 : Cc :=
  (.seq (.reg false [⟨some 4, (Op.assign (Operand.const (Value.int IntKind.i64 0))), none⟩])
  (.seq (.seq (.reg false [⟨some 7, (Op.move (Operand.tmp 0)), none⟩,
    ⟨some 8, (Op.call { callee := (Callee.value (Operand.func 101)), args := #[(Operand.tmp 7)], argTypes := #[22] }), none⟩,
    ⟨some 9, (Op.unOp UnOp.not 4 (Operand.tmp 8)), none⟩,
    ⟨some 10, (Op.move (Operand.tmp 9)), none⟩,
    ⟨some 11, (Op.move (Operand.tmp 1)), some (10, false)⟩,
    ⟨some 12, (Op.call { callee := (Callee.builtin Builtin.len), args := #[(Operand.tmp 11)], argTypes := #[22] }), some (10, false)⟩,
    ⟨some 13, (Op.move (Operand.tmp 0)), some (10, false)⟩,
    ⟨some 14, (Op.call { callee := (Callee.builtin Builtin.len), args := #[(Operand.tmp 13)], argTypes := #[22] }), some (10, false)⟩,
    ⟨some 15, (Op.binOp BinOp.neq 3 (Operand.tmp 12) (Operand.tmp 14) 3), some (10, false)⟩,
    ⟨some 16, (Op.pick (Operand.tmp 10) (Operand.const (Value.bool true)) (Operand.tmp 15)), none⟩])
  (.cond (Operand.tmp 16)
    (.seq (.reg false [⟨some 4, (Op.assign (Operand.const (Value.int IntKind.i64 (-1)))), none⟩])
    .ret)
    .skip))
  (.seq (.reg false [⟨some 5, (Op.assign (Operand.const (Value.int IntKind.i64 0))), none⟩])
  (.seq (.seq (.reg false [⟨some 6, (Op.assign (Operand.const (Value.int IntKind.i64 0))), none⟩])
  (.block 0 (.loop [0, 1, 5, 6] false
    (.seq (.seq (.reg false [⟨some 17, (Op.move (Operand.tmp 6)), none⟩,
      ⟨some 18, (Op.move (Operand.tmp 0)), none⟩,
      ⟨some 19, (Op.call { callee := (Callee.builtin Builtin.len), args := #[(Operand.tmp 18)], argTypes := #[22] }), none⟩,
      ⟨some 20, (Op.binOp BinOp.lss 3 (Operand.tmp 17) (Operand.tmp 19) 3), none⟩])
    (.cond (Operand.tmp 20)
      .skip
      (.exit 0)))
    (.seq (.block 1 (.seq (.seq (.reg false [⟨some 23, (Op.move (Operand.tmp 1)), none⟩,
      ⟨some 24, (Op.move (Operand.tmp 6)), none⟩,
      ⟨some 25, (Op.indexAddr 22 (Operand.tmp 23) (Operand.tmp 24)), none⟩,
      ⟨some 26, (Op.load 3 (Operand.tmp 25)), none⟩,
      ⟨some 27, (Op.binOp BinOp.lss 3 (Operand.tmp 26) (Operand.const (Value.int IntKind.i64 0)) 3), none⟩,
      ⟨some 28, (Op.move (Operand.tmp 27)), none⟩,
      ⟨some 29, (Op.move (Operand.tmp 1)), some (28, false)⟩,
      ⟨some 30, (Op.move (Operand.tmp 6)), some (28, false)⟩,
      ⟨some 31, (Op.indexAddr 22 (Operand.tmp 29) (Operand.tmp 30)), some (28, false)⟩,
      ⟨some 32, (Op.load 3 (Operand.tmp 31)), some (28, false)⟩,
      ⟨some 33, (Op.move (Operand.tmp 0)), some (28, false)⟩,
      ⟨some 34, (Op.move (Operand.tmp 6)), some (28, false)⟩,
      ⟨some 35, (Op.indexAddr 22 (Operand.tmp 33) (Operand.tmp 34)), some (28, false)⟩,
      ⟨some 36, (Op.load 3 (Operand.tmp 35)), some (28, false)⟩,
      ⟨some 37, (Op.binOp BinOp.geq 3 (Operand.tmp 32) (Operand.tmp 36) 3), some (28, false)⟩,
      ⟨some 38, (Op.pick (Operand.tmp 28) (Operand.const (Value.bool true)) (Operand.tmp 37)), none⟩])
    (.cond (Operand.tmp 38)
      (.seq (.reg false [⟨some 4, (Op.assign (Operand.const (Value.int IntKind.i64 (-1)))), none⟩])
      .ret)
      .skip))
    (.reg false [⟨some 39, (Op.move (Operand.tmp 5)), none⟩,
      ⟨some 40, (Op.move (Operand.tmp 0)), none⟩,
      ⟨some 41, (Op.move (Operand.tmp 6)), none⟩,
      ⟨some 42, (Op.indexAddr 22 (Operand.tmp 40) (Operand.tmp 41)), none⟩,
      ⟨some 43, (Op.load 3 (Operand.tmp 42)), none⟩,
      ⟨some 44, (Op.binOp BinOp.mul 3 (Operand.tmp 39) (Operand.tmp 43) 3), none⟩,
      ⟨some 45, (Op.move (Operand.tmp 1)), none⟩,
      ⟨some 46, (Op.move (Operand.tmp 6)), none⟩,
      ⟨some 47, (Op.indexAddr 22 (Operand.tmp 45) (Operand.tmp 46)), none⟩,
      ⟨some 48, (Op.load 3 (Operand.tmp 47)), none⟩,
      ⟨some 49, (Op.binOp BinOp.add 3 (Operand.tmp 44) (Operand.tmp 48) 3), none⟩,
      ⟨some 5, (Op.assign (Operand.tmp 49)), none⟩])))
    (.reg false [⟨some 21, (Op.move (Operand.tmp 6)), none⟩,
      ⟨some 22, (Op.binOp BinOp.add 3 (Operand.tmp 21) (Operand.const (Value.int IntKind.i64 1)) 3), none⟩,
      ⟨some 6, (Op.assign (Operand.tmp 22)), none⟩]))))))
  (.seq (.reg false [⟨some 50, (Op.move (Operand.tmp 5)), none⟩,
    ⟨some 4, (Op.assign (Operand.tmp 50)), none⟩])
  .ret)))))
noncomputable def b42 : Code := Try.f42.body.getD .skip
theorem hb42 : Try.f42.body = some b42 := by kernel_rfl
theorem sh42 : shortC A42 b42 = c42 := by kernel_rfl
def rs42 : List ResultVar := [(ResultVar.tmp 4)]
theorem hr42 : Try.f42.results.toList = rs42 := by kernel_rfl
/-! parquetry/parquetrylaw17.SplitFirsts (2 parameters; calls 23 parquetry/parquetryref14.Copies, 31 parquetry/parquetrylaw17.made, 36 parquetry/parquetrylaw17.known, 37 parquetry/split.All, 38 parquetry/split.Join, 39 parquetry/parquetryref1.Same, 40 parquetry/parquetryref14.Tile, 41 parquetry/parquetryref1.Place, 42 parquetry/parquetryref1.Index) -/
def A11 : Ann := { recs := fun i => if i = 21 then [(0, 8), (0, 14), (1, 8), (1, 14), (2, 8), (2, 14), (3, 8), (3, 14), (4, 8), (4, 14), (5, 8), (5, 14), (6, 8), (6, 14), (8, 7), (9, 7), (10, 7), (11, 7), (12, 7)] else [], live := fun i => if i = 8 then [5, 6, 7, 8, 10, 11, 12, 62, 63] else if i = 12 then [5, 6, 7, 8, 10, 11, 12, 13, 14, 62, 63, 70, 71] else [], drop := fun i => false }
/- Plain laws: numbers of places, there and back. -/
section
variable {s : List Int} (h4 : s.length ≤ 4) (hr : ∀ j : Nat, j < s.length → 1 ≤ nth s j ∧ nth s j ≤ 32)
include h4 hr
omit h4 in
end
/- Plain laws: a device's part, axis by axis; each place lies in some device's part. -/
theorem part_at {s sz sp : List Int} {d : Int} (h : mayCut s sz sp d) (i : Nat) (hi : i < s.length) :
    nth (fromL s sz sp d) i = (cutAt s sz (meshAt sz d) i (nth sp i)).1 ∧ nth (sizeL s sz sp d) i = w ((cutAt s sz (meshAt sz d) i (nth sp i)).2 - (cutAt s sz (meshAt sz d) i (nth sp i)).1) := by
  obtain ⟨hs, hsp, h0, h1⟩ := h
  obtain ⟨hl, hm, hr⟩ := specOK_lt hsp
  have hc := cutsGo_at s sz (meshAt sz d) sp sp.length i (by omega)
  constructor
  · unfold fromL cutsL
    rw [if_pos ⟨hs, hsp, h0, h1⟩]
    simp [nth, List.getD_eq_getElem?_getD, hc]
  · unfold sizeL cutsL
    rw [if_pos ⟨hs, hsp, h0, h1⟩]
    simp [nth, List.getD_eq_getElem?_getD, hc]
/-! ### each number lies in a part -/
/- Walks: the document's parts of a length, of a tensor; its places. -/
def widthR (n k : Int) : Int := if n < 0 ∨ k < 1 then 0 else if 0 < n.tmod k then w (w (n.tdiv k) + 1) else w (n.tdiv k)
def F140 (args : List AV) (_ : Hp) : Option AV := match args with
  | [.int .i64 n, .int .i64 k] => some (.int .i64 (widthR n k))
  | _ => none
theorem snd140 : Sound Try.prog 140 (FSem.pure F140).run := by
  refine sound_of hT (EOK_nil _) mixed A140 Try.func140 hb140 (by kernel_rfl) (by kernel_rfl) (by kernel_rfl) (by kernel_rfl) sh140 2 (by kernel_rfl) rs140 hr140 ?_
  intro args H r H' hw h
  obtain ⟨rfl, hv⟩ := pureAt h
  clear h
  unfold F140 at hv
  split at hv
  · rename_i n k
    cases hv
    have hk : ¬ k < 1 → ¬ k = 0 := by omega
    refine ⟨rfl, go ?_⟩
    unfold c140
    simp only [argSl]
    repeat' (first | apply goSeq | apply goReg | apply goSeqN | apply goSeqR | apply goSkip | apply goRet | apply goNil | apply goBlock | apply goExit | apply goBlkN | apply goBlkR | apply goBlkE | apply goSeqE | apply goLoopR | apply goLoopE | refine xOp ?_ | refine xOp0 ?_ | refine xYes ?_ | refine xNo ?_ | refine xNoU ?_ | refine xIfT ?_ | refine xIfF ?_ | refine xIf ?_ ?_ | refine xSplit ?_ ?_ | refine xIfQ ?_ ?_ | refine xSplitQ ?_ ?_ | refine xBlkX ?_ | intro _)
    all_goals (refine goEnd hw (Pre.refl _) (by simp) (by simp [rs140]; exact rfl) rfl ?_; simp [widthR, *])
  · cases hv
@[simp] theorem F140_at (n k : Int) (H : Hp) : F140 [.int .i64 n, .int .i64 k] H = some (.int .i64 (widthR n k)) := rfl
def cutR1 (n W i : Int) : Int := if W = 0 ∨ i ≤ w (n.tdiv W) then (if w (i * W) ≤ n then w (i * W) else n) else n
def cutR2 (n W f : Int) : Int := if W ≤ w (n - f) then w (f + W) else n
def cutR (n k i : Int) : Int × Int := if n < 0 ∨ k < 1 ∨ i < 0 ∨ k ≤ i then (0, 0) else (cutR1 n (widthR n k) i, cutR2 n (widthR n k) (cutR1 n (widthR n k) i))
def F99 (args : List AV) (_ : Hp) : Option AV := match args with
  | [.int .i64 n, .int .i64 k, .int .i64 i] => some (.tup [.int .i64 (cutR n k i).1, .int .i64 (cutR n k i).2])
  | _ => none
set_option maxHeartbeats 1000000 in
theorem snd99 : Sound Try.prog 99 (FSem.pure F99).run := by
  refine sound_of hT (EOK_cons snd140 (EOK_nil _)) mixed A99 Try.func99 hb99 (by kernel_rfl) (by kernel_rfl) (by kernel_rfl) (by kernel_rfl) sh99 3 (by kernel_rfl) rs99 hr99 ?_
  intro args H r H' hw h
  obtain ⟨rfl, hv⟩ := pureAt h
  clear h
  unfold F99 at hv
  split at hv
  · rename_i n k i
    cases hv
    refine ⟨rfl, go ?_⟩
    unfold c99
    simp only [argSl]
    by_cases hc : n < 0 ∨ k < 1 ∨ i < 0 ∨ k ≤ i
    · have e : cutR n k i = (0, 0) := by simp [cutR, hc]
      rw [e]
      clear e
      rcases hc with hc | hc | hc | hc
      all_goals (repeat' (first | apply goSeq | apply goReg | apply goSeqN | apply goSeqR | apply goSkip | apply goRet | apply goNil | apply goBlock | apply goExit | apply goBlkN | apply goBlkR | apply goBlkE | apply goSeqE | apply goLoopR | apply goLoopE | refine xOp ?_ | refine xOp0 ?_ | refine xYes ?_ | refine xNo ?_ | refine xNoU ?_ | refine xIfT ?_ | refine xIfF ?_ | refine xIf ?_ ?_ | refine xSplit ?_ ?_ | refine xIfQ ?_ ?_ | refine xSplitQ ?_ ?_ | refine xBlkX ?_ | intro _))
      all_goals (first | (refine goEnd hw (Pre.refl _) (by simp) (by simp [rs99]; exact rfl) rfl rfl; done) | (exfalso; simp at *; omega))
    · have e : cutR n k i = (cutR1 n (widthR n k) i, cutR2 n (widthR n k) (cutR1 n (widthR n k) i)) := by simp only [cutR, if_neg hc]
      rw [e]
      clear e
      have h1 : ¬ n < 0 := by omega
      have h2 : ¬ k < 1 := by omega
      have h3 : ¬ i < 0 := by omega
      have h4 : ¬ k ≤ i := by omega
      clear hc
      generalize hW : widthR n k = W at *
      repeat' (first | apply goSeq | apply goReg | apply goSeqN | apply goSeqR | apply goSkip | apply goRet | apply goNil | apply goBlock | apply goExit | apply goBlkN | apply goBlkR | apply goBlkE | apply goSeqE | apply goLoopR | apply goLoopE | refine xOp ?_ | refine xOp0 ?_ | refine xYes ?_ | refine xNo ?_ | refine xNoU ?_ | refine xIfT ?_ | refine xIfF ?_ | refine xIf ?_ ?_ | refine xSplit ?_ ?_ | refine xIfQ ?_ ?_ | refine xSplitQ ?_ ?_ | refine xBlkX ?_ | intro _)
      all_goals (refine goEnd hw (Pre.refl _) (by simp) (by simp [rs99]; exact rfl) rfl ?_; simp [cutR1, cutR2, *])
  · cases hv
def cutSame (n k i : Int) : Bool := decide (cutR n k i = cut n k i)
theorem cutR_fin : ((List.range 33).all fun n => (List.range 8).all fun k => (List.range (k + 1)).all fun i => cutSame (n : Nat) ((k + 1 : Nat) : Int) (i : Nat)) = true := by decide +kernel
theorem cutR_eq {n k i : Int} (hn : 0 ≤ n ∧ n ≤ 32) (hk : 1 ≤ k ∧ k ≤ 8) (hi : 0 ≤ i ∧ i < k) : cutR n k i = cut n k i := by
  obtain ⟨n, rfl⟩ : ∃ m : Nat, n = m := ⟨n.toNat, by omega⟩
  obtain ⟨k, rfl⟩ : ∃ m : Nat, k = m + 1 := ⟨(k - 1).toNat, by omega⟩
  obtain ⟨i, rfl⟩ : ∃ m : Nat, i = m := ⟨i.toNat, by omega⟩
  have h1 := List.all_eq_true.1 cutR_fin n (by simp; omega)
  have h2 := List.all_eq_true.1 h1 k (by simp; omega)
  have h3 := List.all_eq_true.1 h2 i (by simp; omega)
  simpa [cutSame] using h3
@[simp] theorem F99_at (n k i : Int) (H : Hp) : F99 [.int .i64 n, .int .i64 k, .int .i64 i] H = some (.tup [.int .i64 (cutR n k i).1, .int .i64 (cutR n k i).2]) := rfl
/-- May a shape be parted so? -/
def mayS (s sz sp : List Int) : Bool := shapeOK s && meshOK sz && specOK sz sp s.length
def F85 (args : List AV) (H : Hp) : Option AV := match args with
  | [a, b, c] => (ints H a).bind fun s => (ints H b).bind fun sz => (ints H c).map fun sp => .bool (mayS s sz sp)
  | _ => none
theorem snd85 : Sound Try.prog 85 (FSem.pure F85).run := by
  refine sound_of hT (EOK_cons snd56 (EOK_cons snd58 (EOK_cons snd101 (EOK_nil _)))) mixed A85 Try.func85 hb85 (by kernel_rfl) (by kernel_rfl) (by kernel_rfl) (by kernel_rfl) sh85 3 (by kernel_rfl) rs85 hr85 ?_
  intro args H r H' hw h
  obtain ⟨rfl, hv⟩ := pureAt h
  clear h
  unfold F85 at hv
  split at hv
  · rename_i a b c
    obtain ⟨s, hs, hv⟩ := Option.bind_eq_some_iff.1 hv
    obtain ⟨sz, hsz, hv⟩ := Option.bind_eq_some_iff.1 hv
    obtain ⟨sp, hsp, hv⟩ := Option.map_eq_some_iff.1 hv
    cases hv
    have hl := alenS_ints hs
    simp only [← alen22] at hl
    have e1 := r1OK_eq s
    have e2 := rOK_eq sz
    have e3 := rSpecOK_eq sz sp s.length
    refine ⟨rfl, go ?_⟩
    unfold c85
    simp only [argSl]
    unfold mayS
    rcases h1 : shapeOK s with _ | _
    · repeat' (first | apply goSeq | apply goReg | apply goSeqN | apply goSeqR | apply goSkip | apply goRet | apply goNil | apply goBlock | apply goExit | apply goBlkN | apply goBlkR | apply goBlkE | apply goSeqE | apply goLoopR | apply goLoopE | refine xOp ?_ | refine xOp0 ?_ | refine xYes ?_ | refine xNo ?_ | refine xNoU ?_ | refine xIfT ?_ | refine xIfF ?_ | refine xIf ?_ ?_ | refine xSplit ?_ ?_ | refine xIfQ ?_ ?_ | refine xSplitQ ?_ ?_ | refine xBlkX ?_ | intro _)
      exact goEnd hw (Pre.refl _) (by simp) (by simp [rs85]; exact rfl) rfl (by simp)
    rcases h2 : meshOK sz with _ | _
    · repeat' (first | apply goSeq | apply goReg | apply goSeqN | apply goSeqR | apply goSkip | apply goRet | apply goNil | apply goBlock | apply goExit | apply goBlkN | apply goBlkR | apply goBlkE | apply goSeqE | apply goLoopR | apply goLoopE | refine xOp ?_ | refine xOp0 ?_ | refine xYes ?_ | refine xNo ?_ | refine xNoU ?_ | refine xIfT ?_ | refine xIfF ?_ | refine xIf ?_ ?_ | refine xSplit ?_ ?_ | refine xIfQ ?_ ?_ | refine xSplitQ ?_ ?_ | refine xBlkX ?_ | intro _)
      exact goEnd hw (Pre.refl _) (by simp) (by simp [rs85]; exact rfl) rfl (by simp)
    repeat' (first | apply goSeq | apply goReg | apply goSeqN | apply goSeqR | apply goSkip | apply goRet | apply goNil | apply goBlock | apply goExit | apply goBlkN | apply goBlkR | apply goBlkE | apply goSeqE | apply goLoopR | apply goLoopE | refine xOp ?_ | refine xOp0 ?_ | refine xYes ?_ | refine xNo ?_ | refine xNoU ?_ | refine xIfT ?_ | refine xIfF ?_ | refine xIf ?_ ?_ | refine xSplit ?_ ?_ | refine xIfQ ?_ ?_ | refine xSplitQ ?_ ?_ | refine xBlkX ?_ | intro _)
    exact goEnd hw (Pre.refl _) (by simp) (by simp [rs85]; exact rfl) rfl (by simp)
  · cases hv
@[simp] theorem F85_at (a b c : AV) (H : Hp) : F85 [a, b, c] H = (ints H a).bind fun s => (ints H b).bind fun sz => (ints H c).map fun sp => .bool (mayS s sz sp) := rfl
/-! ### the document's places -/
set_option maxHeartbeats 1000000 in
theorem snd42 : Sound Try.prog 42 (FSem.pure F96).run := by
  refine sound_of hT (EOK_cons snd101 (EOK_nil _)) mixed A42 Try.func42 hb42 (by kernel_rfl) (by kernel_rfl) (by kernel_rfl) (by kernel_rfl) sh42 2 (by kernel_rfl) rs42 hr42 ?_
  intro args H r H' hw h
  obtain ⟨rfl, hv⟩ := pureAt h
  clear h
  unfold F96 at hv
  split at hv
  · rename_i a v
    obtain ⟨sz, hsz, hv⟩ := Option.bind_eq_some_iff.1 hv
    obtain ⟨l, hl, hv⟩ := Option.map_eq_some_iff.1 hv
    cases hv
    have hlen := alenS_ints hl
    have hb := ints_len hl
    have hlen2 := alenS_ints hsz
    have hix := aidxS_ints hl .i64
    have hld := aload_nth T3 rfl hl
    have hix2 := aidxS_ints hsz .i64
    have hld2 := aload_nth T3 rfl hsz
    have e1 := r1OK_eq sz
    refine ⟨rfl, go ?_⟩
    unfold c42
    simp only [argSl]
    simp only [← aidx22, ← alen22] at hix hlen hix2 hlen2
    rcases hm : shapeOK sz with _ | _
    · repeat' (first | apply goSeq | apply goReg | apply goSeqN | apply goSeqR | apply goSkip | apply goRet | apply goNil | apply goBlock | apply goExit | apply goBlkN | apply goBlkR | apply goBlkE | apply goSeqE | apply goLoopR | apply goLoopE | refine xOp ?_ | refine xOp0 ?_ | refine xYes ?_ | refine xNo ?_ | refine xNoU ?_ | refine xIfT ?_ | refine xIfF ?_ | refine xIf ?_ ?_ | refine xSplit ?_ ?_ | refine xIfQ ?_ ?_ | refine xSplitQ ?_ ?_ | refine xBlkX ?_ | intro _)
      refine goEnd hw (Pre.refl _) (by simp) (by simp [rs42]; exact rfl) rfl ?_
      simp [idxL, hm]
    · by_cases hll : l.length = sz.length
      · have hres : idxL sz l = ofGo 0 sz l := by simp [idxL, hm, hll]
        have hll' : (sz.length : Int) = l.length := by omega
        rw [hres]
        rw [hll'] at hix2 hld2 hlen2
        have hll'' : l.length = sz.length := hll
        clear hll hll' hres
        replace hll'' := Hide.mk hll''
        repeat' (first | apply goSeq | apply goReg | apply goSeqN | apply goSeqR | apply goSkip | apply goRet | apply goNil | apply goBlock | apply goExit | apply goBlkN | apply goBlkR | apply goBlkE | apply goSeqE | apply goLoopR | apply goLoopE | refine xOp ?_ | refine xOp0 ?_ | refine xYes ?_ | refine xNo ?_ | refine xNoU ?_ | refine xIfT ?_ | refine xIfF ?_ | refine xIf ?_ ?_ | refine xSplit ?_ ?_ | refine xIfQ ?_ ?_ | refine xSplitQ ?_ ?_ | refine xBlkX ?_ | intro _)
        refine goLoop (fun m s1 H1 => H1 = H' ∧ ∃ (i : Nat) (d : Int), m = l.length - i ∧ i ≤ l.length ∧ get s1 0 = a ∧ get s1 1 = v ∧ get s1 5 = .int .i64 d ∧ get s1 6 = .int .i64 i ∧ ofGo d (sz.drop i) (l.drop i) = ofGo 0 sz l) l.length ?_ ?_
        · exact ⟨rfl, 0, 0, rfl, Nat.zero_le _, rfl, rfl, rfl, rfl, by simp⟩
        · rintro m s1 H1 ⟨rfl, i, d, hmm, hi, g1, g2, g3, g4, hgo⟩
          simp only [cut_cons, cut_nil, g1, g2, g3, g4]
          clear g1 g2 g3 g4
          have hi0 : (0 : Int) ≤ i := Int.natCast_nonneg i
          have hw1 : w ((i : Int) + 1) = ((i + 1 : Nat) : Int) := w_id (by omega)
          have hd := fun h => drop_nth l i h
          have hd2 : i < l.length → sz.drop i = nth sz i :: sz.drop (i + 1) := fun h => drop_nth sz i (by have := hll''.out; omega)
          have hnil : ¬ i < l.length → l.drop i = [] := fun h => List.drop_of_length_le (by omega)
          replace hgo := Hide.mk hgo
          replace hd := Hide.mk hd
          replace hd2 := Hide.mk hd2
          replace hnil := Hide.mk hnil
          repeat' (first | apply goSeq | apply goReg | apply goSeqN | apply goSeqR | apply goSkip | apply goRet | apply goNil | apply goBlock | apply goExit | apply goBlkN | apply goBlkR | apply goBlkE | apply goSeqE | apply goLoopR | apply goLoopE | refine xOp ?_ | refine xOp0 ?_ | refine xYes ?_ | refine xNo ?_ | refine xNoU ?_ | refine xIfT ?_ | refine xIfF ?_ | refine xIf ?_ ?_ | refine xSplit ?_ ?_ | refine xIfQ ?_ ?_ | refine xSplitQ ?_ ?_ | refine xBlkX ?_ | intro _)
          all_goals replace hgo := hgo.out
          all_goals replace hd := hd.out
          all_goals replace hd2 := hd2.out
          all_goals (try simp only [Bool.not_eq_true', decide_eq_false_iff_not, Bool.not_eq_false', decide_eq_true_eq] at *)
          all_goals first
            | (refine goEnd hw (Pre.refl _) (by simp) (by simp [rs42]; exact rfl) rfl ?_; rw [← hgo, hd (by assumption), hd2 (by assumption)]; simp [ofGo, *]; done)
            | (refine goEnd hw (Pre.refl _) (by simp) (by simp [rs42]; exact rfl) rfl ?_; rw [← hgo, hnil.out (by assumption)]; cases sz.drop i <;> simp [ofGo]; done)
            | (refine goLoopN (l.length - (i + 1)) (by omega) ⟨rfl, i + 1, _, rfl, by omega, rfl, rfl, rfl, rfl, ?_⟩; rw [← hgo, hd (by assumption), hd2 (by assumption)]; simp [ofGo, *])
      · repeat' (first | apply goSeq | apply goReg | apply goSeqN | apply goSeqR | apply goSkip | apply goRet | apply goNil | apply goBlock | apply goExit | apply goBlkN | apply goBlkR | apply goBlkE | apply goSeqE | apply goLoopR | apply goLoopE | refine xOp ?_ | refine xOp0 ?_ | refine xYes ?_ | refine xNo ?_ | refine xNoU ?_ | refine xIfT ?_ | refine xIfF ?_ | refine xIf ?_ ?_ | refine xSplit ?_ ?_ | refine xIfQ ?_ ?_ | refine xSplitQ ?_ ?_ | refine xBlkX ?_ | intro _)
        · refine goEnd hw (Pre.refl _) (by simp) (by simp [rs42]; exact rfl) rfl ?_
          simp [idxL, hm, hll]
        · rename_i hc
          simp at hc
          omega
  · cases hv
set_option maxHeartbeats 1000000 in
theorem snd41 : Sound Try.prog 41 (FSem.eff F95).run := by
  refine sound_of hT (EOK_cons snd100 (EOK_nil _)) mixed A41 Try.func41 hb41 (by kernel_rfl) (by kernel_rfl) (by kernel_rfl) (by kernel_rfl) sh41 2 (by kernel_rfl) rs41 hr41 ?_
  intro args H r H' hw h
  have hv : F95 args H = some (r, H') := h
  clear h
  unfold F95 at hv
  split at hv
  · rename_i v d
    obtain ⟨l, hl, hv⟩ := Option.map_eq_some_iff.1 hv
    have hlen := alenS_ints hl
    have hb := ints_len hl
    have hix := aidxS_ints hl .i64
    have hld := fun {H1 : Hp} (he : Pre H H1) => aload_nth T3 rfl (ints_ext he hl)
    refine ⟨rfl, go ?_⟩
    unfold c41
    simp only [argSl]
    simp only [← aidx22, ← alen22] at hix hlen
    replace hv := Hide.mk hv
    repeat' (first | apply goSeq | apply goReg | apply goSeqN | apply goSeqR | apply goSkip | apply goRet | apply goNil | apply goBlock | apply goExit | apply goBlkN | apply goBlkR | apply goBlkE | apply goSeqE | apply goLoopR | apply goLoopE | refine xOp ?_ | refine xOp0 ?_ | refine xYes ?_ | refine xNo ?_ | refine xNoU ?_ | refine xIfT ?_ | refine xIfF ?_ | refine xIf ?_ ?_ | refine xSplit ?_ ?_ | refine xIfQ ?_ ?_ | refine xSplitQ ?_ ?_ | refine xBlkX ?_ | intro _)
    · rename_i h1
      replace hv := hv.out
      rw [if_pos (.inl h1)] at hv
      exact goEndS (l := []) hw (Ext.refl hw) (.inl ⟨rfl, rfl⟩) (by simp) (by simp [rs41]) rfl hv
    · rename_i h1 h2
      replace hv := hv.out
      rw [if_pos (.inr h2)] at hv
      exact goEndS (l := []) hw (Ext.refl hw) (.inl ⟨rfl, rfl⟩) (by simp) (by simp [rs41]) rfl hv
    · rename_i h1 h2
      replace hv := hv.out
      rw [if_neg (by omega)] at hv
      have hm : shapeOK l = true := by
        rcases hmm : shapeOK l with _ | _
        · exfalso; simp [sizeOf, hmm] at h2; omega
        · rfl
      obtain ⟨h3, hpos⟩ := shape_pos hm (by have : sizeOf l = prodW 1 l := by simp [sizeOf, hm]
                                            omega)
      obtain ⟨u, H1, e, ho, he⟩ := make_own (Ext.refl hw) l.length (by omega)
      refine goOp (v := u) (H' := H1) rfl (by simp; exact e) ?_
      replace hv := Hide.mk hv
      repeat' (first | apply goSeq | apply goReg | apply goSeqN | apply goSeqR | apply goSkip | apply goRet | apply goNil | apply goBlock | apply goExit | apply goBlkN | apply goBlkR | apply goBlkE | apply goSeqE | apply goLoopR | apply goLoopE | refine xOp ?_ | refine xOp0 ?_ | refine xYes ?_ | refine xNo ?_ | refine xNoU ?_ | refine xIfT ?_ | refine xIfF ?_ | refine xIf ?_ ?_ | refine xSplit ?_ ?_ | refine xIfQ ?_ ?_ | refine xSplitQ ?_ ?_ | refine xBlkX ?_ | intro _)
      have hwl : w ((l.length : Int) - 1) = (l.length : Int) - 1 := w_id (by omega)
      rw [hwl]
      refine goLoop (fun m s1 H1 => Ext H H1 ∧ ∃ (d1 : Int) (out : List Int) (u : AV), m ≤ l.length ∧ get s1 0 = v ∧ get s1 1 = .int .i64 d1 ∧ get s1 5 = u ∧ get s1 6 = .int .i64 ((m : Int) - 1) ∧ OwnF H H1 u out ∧ out.length = l.length ∧ atW l m d1 out = meshAt l d) l.length ?_ ?_
      · exact ⟨he, d, _, u, Nat.le_refl _, rfl, rfl, rfl, rfl, ho, by simp, rfl⟩
      · clear he ho e hwl h1 h2 hm
        rintro m s1 H1 ⟨he, d1, out, u, hi, g1, g2, g3, g4, ho, hol, hgo⟩
        have hixu := aidxS_ints (ints_of_ownF ho (by omega)) .i64
        simp only [← aidx22] at hixu
        have hl1 := hld he.pre
        cases m with
        | zero =>
          simp only [cut_cons, cut_nil, g1, g2, g3, g4]
          clear g1 g2 g3 g4
          replace ho := Hide.mk ho
          replace hgo := Hide.mk hgo
          repeat' (first | apply goSeq | apply goReg | apply goSeqN | apply goSeqR | apply goSkip | apply goRet | apply goNil | apply goBlock | apply goExit | apply goBlkN | apply goBlkR | apply goBlkE | apply goSeqE | apply goLoopR | apply goLoopE | refine xOp ?_ | refine xOp0 ?_ | refine xYes ?_ | refine xNo ?_ | refine xNoU ?_ | refine xIfT ?_ | refine xIfF ?_ | refine xIf ?_ ?_ | refine xSplit ?_ ?_ | refine xIfQ ?_ ?_ | refine xSplitQ ?_ ?_ | refine xBlkX ?_ | intro _)
          refine goEndF hw he ho.out (by simp) (by simp [rs41]) rfl ?_
          rw [← hv.out, ← hgo.out]
          rfl
        | succ m =>
          rw [show (((m + 1 : Nat) : Int) - 1) = (m : Int) by omega] at g4
          simp only [cut_cons, cut_nil, g1, g2, g3, g4]
          clear g1 g2 g3 g4
          have hm0 : (0 : Int) ≤ m := Int.natCast_nonneg m
          have hml : m < l.length := by omega
          have hne : ¬ nth l m = 0 := by have := hpos m hml; omega
          have hwm : w ((m : Int) - 1) = (m : Int) - 1 := w_id (by omega)
          replace ho := Hide.mk ho
          replace hgo := Hide.mk hgo
          repeat' (first | apply goSeq | apply goReg | apply goSeqN | apply goSeqR | apply goSkip | apply goRet | apply goNil | apply goBlock | apply goExit | apply goBlkN | apply goBlkR | apply goBlkE | apply goSeqE | apply goLoopR | apply goLoopE | refine xOp ?_ | refine xOp0 ?_ | refine xYes ?_ | refine xNo ?_ | refine xNoU ?_ | refine xIfT ?_ | refine xIfF ?_ | refine xIf ?_ ?_ | refine xSplit ?_ ?_ | refine xIfQ ?_ ?_ | refine xSplitQ ?_ ?_ | refine xBlkX ?_ | intro _)
          obtain ⟨H2, e, ho', he'⟩ := store_own hw he ho.out m (by omega) (d1.tmod (nth l m))
          have hl2 := hld he'.pre
          refine goOp0 (v := .bad) (H' := H2) rfl (by simp [e]) ?_
          replace ho' := Hide.mk ho'
          clear e
          repeat' (first | apply goSeq | apply goReg | apply goSeqN | apply goSeqR | apply goSkip | apply goRet | apply goNil | apply goBlock | apply goExit | apply goBlkN | apply goBlkR | apply goBlkE | apply goSeqE | apply goLoopR | apply goLoopE | refine xOp ?_ | refine xOp0 ?_ | refine xYes ?_ | refine xNo ?_ | refine xNoU ?_ | refine xIfT ?_ | refine xIfF ?_ | refine xIf ?_ ?_ | refine xSplit ?_ ?_ | refine xIfQ ?_ ?_ | refine xSplitQ ?_ ?_ | refine xBlkX ?_ | intro _)
          exact goLoopN m (by omega) ⟨he', _, _, u, by omega, rfl, rfl, rfl, rfl, ho'.out, by simp [hol], by rw [← hgo.out]; rfl⟩
  · cases hv
/-! ### a list that grows beside others -/
theorem trG_S (l : List Int) : trG l.length 1 (trI l) = trS l := by
  unfold trG trS
  by_cases h : l = []
  · simp [h]
  · rw [if_neg (by simpa using h), if_neg h]
theorem rep_appI {c : Nat} {H : Hp} {l : List Int} {v : AV} {bs : List (Nat × Nat)} (hw : Wf H) (hc : c ≤ H.c) (h : Rep c H (trS l) v bs) (hl : l.length < 1099511627776) (hnd : bs.Nodup) (n : Int) :
    ∃ v' H' b' ver', aapp T false 22 22 v (.sl H.bs.length H.c 0 1 1 true) (H.new [.int .i64 n]) = some (v', H') ∧ Rep c H' (trS (l ++ [n])) v' [(b', ver')] ∧ H.c ≤ ver' ∧ ver' < H'.c ∧ (∀ b1 v1, (b1, v1) ∉ bs → Keeps H H' b1 v1) ∧ (∀ H0, Wf H0 → Ext H0 H → H0.c ≤ c → Ext H0 H') := by
  obtain ⟨v', H', bs', bk, b', ver', e1, r1, hbs, _, _, h1, h2, hk, hx⟩ := rep_app (t := 22) (e := 3) (es := 1) (n := l.length) (cs := trI l) (xt := [.at (.int .i64 n)]) (xs := [.int .i64 n]) (bx := []) D22 T3 rfl (by decide) hw hc (by rw [trG_S]; exact h)
    (by simp only [Reps, Rep]; exact ⟨_, _, [], [], rfl, ⟨rfl, rfl, rfl⟩, ⟨rfl, rfl⟩, rfl⟩) (by simp [trI]) rfl (by decide) (by simp [maxBytes]; omega) hnd (by simp)
  have e2 : trG (l.length + 1) 1 (trI l ++ [.at (.int .i64 n)]) = trS (l ++ [n]) := by
    rw [← trG_S]; simp [trI]
  rw [e2] at r1
  have hbs1 : bs' = [(b', ver')] := by
    rcases rep_S.1 r1 with ⟨h0, _⟩ | ⟨b, ver, _, _, _, _, h0⟩
    · simp at h0
    · rw [h0] at hbs ⊢
      have hlen := congrArg List.length hbs
      have hbk : bk = [] := by simpa using hlen.symm
      subst hbk
      simpa using hbs
  subst hbs1
  exact ⟨v', H', b', ver', e1, r1, h1, h2, hk, hx⟩
theorem rep_tup2 {c : Nat} {H : Hp} {a b : Tr} {x y : AV} {b1 b2 : List (Nat × Nat)} (h1 : Rep c H a x b1) (h2 : Rep c H b y b2) : Rep c H (.tup [a, b]) (.tup [x, y]) (b1 ++ b2) := by
  simp only [Rep, Reps]
  exact ⟨_, rfl, x, _, b1, b2, rfl, h1, ⟨y, _, b2, [], rfl, h2, ⟨rfl, rfl⟩, by simp⟩, rfl⟩
theorem mayS_cut {s sz sp : List Int} {d : Int} (h : mayS s sz sp = true) (h0 : 0 ≤ d) (h1 : d < devs sz) : mayCut s sz sp d := by
  simp only [mayS, Bool.and_eq_true] at h
  exact ⟨h.1.1, h.2, h0, h1⟩
theorem not_mayS {s sz sp : List Int} {d : Int} (h : mayS s sz sp = false) : ¬ mayCut s sz sp d := by
  rintro ⟨h1, h2, _⟩
  have h3 := (specOK_lt h2).2.1
  simp [mayS, h1, h2, h3] at h
theorem no_cut {s sz sp : List Int} {d : Int} (h : ¬ mayCut s sz sp d) : fromL s sz sp d = [] ∧ sizeL s sz sp d = [] := by
  unfold fromL sizeL cutsL
  rw [if_neg h]
  exact ⟨rfl, rfl⟩
/-- Where a device's part begins, how long it is. -/
noncomputable def tileTr (s sz sp : List Int) (d : Int) : Tr := .tup [trS (fromL s sz sp d), trS (sizeL s sz sp d)]
noncomputable def F40 (args : List AV) (H : Hp) : Option (AV × Hp) := match args with
  | [a, b, c, .int .i64 d] => (ints H a).bind fun s => (ints H b).bind fun sz => (ints H c).map fun sp => mk (tileTr s sz sp d) H
  | _ => none
set_option maxHeartbeats 2000000 in
theorem snd40 : Sound Try.prog 40 (FSem.eff F40).run := by
  refine sound_of hT (EOK_cons snd20 (EOK_cons snd85 (EOK_cons snd98 (EOK_cons snd99 (EOK_nil _))))) mixed A40 Try.func40 hb40 (by kernel_rfl) (by kernel_rfl) (by kernel_rfl) (by kernel_rfl) sh40 4 (by kernel_rfl) rs40 hr40 ?_
  intro args H r H' hw h
  have hv : F40 args H = some (r, H') := h
  clear h
  unfold F40 at hv
  split at hv
  · rename_i a b c d
    obtain ⟨s, hs, hv⟩ := Option.bind_eq_some_iff.1 hv
    obtain ⟨sz, hsz, hv⟩ := Option.bind_eq_some_iff.1 hv
    obtain ⟨sp, hsp, hv⟩ := Option.map_eq_some_iff.1 hv
    have hvv := Hide.mk hv
    clear hv
    have hrd := rDevs_eq sz
    refine ⟨rfl, go ?_⟩
    unfold c40
    simp only [argSl]
    have hnil : ¬ mayCut s sz sp d → mk (.tup [.at .nilS, .at .nilS]) H = (r, H') := fun hn => by
      have h0 := no_cut hn
      have := hvv.out
      simpa [tileTr, h0.1, h0.2, trS] using this
    have hrn : Rep H.c H (.tup [.at .nilS, .at .nilS]) (xret [.nilS, .nilS]) [] := rep_tup2 (b1 := []) (b2 := []) (by simp [Rep, old]) (by simp [Rep, old])
    replace hnil := Hide.mk hnil
    replace hrn := Hide.mk hrn
    rcases h1 : mayS s sz sp with _ | _
    · repeat' (first | apply goSeq | apply goReg | apply goSeqN | apply goSeqR | apply goSkip | apply goRet | apply goNil | apply goBlock | apply goExit | apply goBlkN | apply goBlkR | apply goBlkE | apply goSeqE | apply goLoopR | apply goLoopE | refine xOp ?_ | refine xOp0 ?_ | refine xYes ?_ | refine xNo ?_ | refine xNoU ?_ | refine xIfT ?_ | refine xIfF ?_ | refine xIf ?_ ?_ | refine xSplit ?_ ?_ | refine xIfQ ?_ ?_ | refine xSplitQ ?_ ?_ | refine xBlkX ?_ | intro _)
      exact goEndR (vs := [.nilS, .nilS]) (bs := []) (d := H.c) hw (Pre.refl _) hrn.out (Fresh.nil _ _) (by simp) (by simp [rs40]) rfl (hnil.out (not_mayS h1))
    by_cases h2 : d < 0
    · repeat' (first | apply goSeq | apply goReg | apply goSeqN | apply goSeqR | apply goSkip | apply goRet | apply goNil | apply goBlock | apply goExit | apply goBlkN | apply goBlkR | apply goBlkE | apply goSeqE | apply goLoopR | apply goLoopE | refine xOp ?_ | refine xOp0 ?_ | refine xYes ?_ | refine xNo ?_ | refine xNoU ?_ | refine xIfT ?_ | refine xIfF ?_ | refine xIf ?_ ?_ | refine xSplit ?_ ?_ | refine xIfQ ?_ ?_ | refine xSplitQ ?_ ?_ | refine xBlkX ?_ | intro _)
      exact goEndR (vs := [.nilS, .nilS]) (bs := []) (d := H.c) hw (Pre.refl _) hrn.out (Fresh.nil _ _) (by simp) (by simp [rs40]) rfl (hnil.out fun hc => by have := hc.2.2.1; omega)
    by_cases h3 : devs sz ≤ d
    · repeat' (first | apply goSeq | apply goReg | apply goSeqN | apply goSeqR | apply goSkip | apply goRet | apply goNil | apply goBlock | apply goExit | apply goBlkN | apply goBlkR | apply goBlkE | apply goSeqE | apply goLoopR | apply goLoopE | refine xOp ?_ | refine xOp0 ?_ | refine xYes ?_ | refine xNo ?_ | refine xNoU ?_ | refine xIfT ?_ | refine xIfF ?_ | refine xIf ?_ ?_ | refine xSplit ?_ ?_ | refine xIfQ ?_ ?_ | refine xSplitQ ?_ ?_ | refine xBlkX ?_ | intro _)
      exact goEndR (vs := [.nilS, .nilS]) (bs := []) (d := H.c) hw (Pre.refl _) hrn.out (Fresh.nil _ _) (by simp) (by simp [rs40]) rfl (hnil.out fun hc => by have := hc.2.2.2; omega)
    have hc := mayS_cut h1 (by omega) (by omega : d < devs sz)
    obtain ⟨hl1, hm, hri⟩ := specOK_lt hc.2.1
    obtain ⟨hfl, hql, _⟩ := part_rng hc
    have hr := (shapeOK_rng hc.1).2
    have h4 := (shapeOK_rng hc.1).1
    have hmi := (meshOK_pos hm).2
    have hm3 := (meshOK_pos hm).1
    have hati := fun j hj => meshAt_in hm hc.2.2.1 hc.2.2.2 j hj
    have hpa := fun i hi => part_at hc i hi
    have hal := meshAt_len sz d
    have hFt : tileTr s sz sp d = .tup [trS (fromL s sz sp d), trS (sizeL s sz sp d)] := rfl
    generalize fromL s sz sp d = FR at *
    generalize sizeL s sz sp d = SZ at *
    have x1 := mkF_ext hw (meshAt sz d)
    have hai := ints_of_ownF (mkF_own H (meshAt sz d)) (by omega)
    generalize hAT : meshAt sz d = AT at *
    have e98 : F98 [b, .int .i64 d] H = some (mkF H AT) := by
      simp only [F98_at, hsz, Option.map_some]
      rw [if_neg (by omega), hAT]
    have hs1 := ints_ext x1.pre hs
    have hsz1 := ints_ext x1.pre hsz
    have hsp1 := ints_ext x1.pre hsp
    generalize mkF H AT = r1 at *
    obtain ⟨av, H1⟩ := r1
    simp only at x1 hai hs1 hsz1 hsp1
    have hls := alenS_ints hs1
    simp only [← alen22] at hls
    have hix := aidxS_ints hs1 .i64
    have hixz := aidxS_ints hsz1 .i64
    have hixp := aidxS_ints hsp1 .i64
    have hixa := aidxS_ints hai .i64
    simp only [← aidx22] at hix hixz hixp hixa
    have hw1 := x1.wf
    replace hr := Hide.mk hr
    replace hmi := Hide.mk hmi
    replace hati := Hide.mk hati
    replace hri := Hide.mk hri
    replace hpa := Hide.mk hpa
    replace hc := Hide.mk hc
    replace x1 := Hide.mk x1
    replace hs1 := Hide.mk hs1
    replace hsz1 := Hide.mk hsz1
    replace hsp1 := Hide.mk hsp1
    replace hai := Hide.mk hai
    replace hFt := Hide.mk hFt
    replace hl1 := Hide.mk hl1
    replace hal := Hide.mk hal
    clear hAT hnil hrn
    have h3' : d < devs sz := by omega
    repeat' (first | apply goSeq | apply goReg | apply goSeqN | apply goSeqR | apply goSkip | apply goRet | apply goNil | apply goBlock | apply goExit | apply goBlkN | apply goBlkR | apply goBlkE | apply goSeqE | apply goLoopR | apply goLoopE | refine xOp ?_ | refine xOp0 ?_ | refine xYes ?_ | refine xNo ?_ | refine xNoU ?_ | refine xIfT ?_ | refine xIfF ?_ | refine xIf ?_ ?_ | refine xSplit ?_ ?_ | refine xIfQ ?_ ?_ | refine xSplitQ ?_ ?_ | refine xBlkX ?_ | intro _)
    refine goLoop (fun m s1 G => ∃ (i : Nat) (u z : AV) (bu bz : List (Nat × Nat)), m = s.length - i ∧ i ≤ s.length ∧ get s1 0 = a ∧ get s1 1 = b ∧ get s1 2 = c ∧ get s1 10 = av ∧ get s1 11 = u ∧ get s1 12 = z ∧ get s1 35 = .int .i64 s.length ∧ get s1 36 = .int .i64 i ∧ Ext H1 G ∧ Rep H1.c G (trS (FR.take i)) u bu ∧ Rep H1.c G (trS (SZ.take i)) z bz ∧ Fresh H1.c G.c (bu ++ bz)) s.length ?_ ?_
    · exact ⟨0, .nilS, .nilS, [], [], rfl, Nat.zero_le _, rfl, rfl, rfl, rfl, rfl, rfl, rfl, rfl, Ext.refl hw1, by simp [trS, Rep, old], by simp [trS, Rep, old], Fresh.nil _ _⟩
    rintro m s1 G ⟨i, u, z, bu, bz, hmm, hi, g1, g2, g3, g4, g5, g6, g7, g8, hx, ru, rz, hf⟩
    simp only [cut_cons, cut_nil, g1, g2, g3, g4, g5, g6, g7, g8]
    clear g1 g2 g3 g4 g5 g6 g7 g8
    have hi0 : (0 : Int) ≤ i := Int.natCast_nonneg i
    have hwi : w ((i : Int) + 1) = ((i + 1 : Nat) : Int) := w_id (by omega)
    by_cases his : i < s.length
    · have his' : (i : Int) < s.length := by omega
      have hl1' := hl1.out
      have hal' := hal.out
      obtain ⟨p1, p2⟩ := hpa.out i his
      have hrs := hr.out i his
      have hrp := hri.out i (by omega)
      have hsG := ints_ext hx.pre hs1.out
      have hzG := ints_ext hx.pre hsz1.out
      have hpG := ints_ext hx.pre hsp1.out
      have haG := ints_ext hx.pre hai.out
      have is := (hix i).trans (if_pos (by omega))
      have ip := (hixp i).trans (if_pos (by omega))
      have ls := aload_nth T3 rfl hsG i hi0 (by omega)
      have lp := aload_nth T3 rfl hpG i hi0 (by omega)
      have hdis := List.nodup_append.1 hf.1
      have ef := take_nth FR i (by omega)
      have ez := take_nth SZ i (by omega)
      obtain ⟨A, B, hAB⟩ : ∃ A B, cutAt s sz AT i (nth sp i) = (A, B) := ⟨_, _, rfl⟩
      rw [hAB] at p1 p2
      simp only at p1 p2
      rw [p1] at ef
      rw [p2] at ez
      obtain ⟨u', G1, bu', vu', e1, ru1, hv1, hv1', k1, hx1⟩ := rep_appI hx.wf hx.c ru (by simp; omega) hdis.1 A
      have x1G := hx1 H1 hw1 hx (Nat.le_refl _)
      have rz1 := Rep.keep _ (fun p hp => k1 p.1 p.2 (fun hm => hdis.2.2 p hm p hp rfl)) rz
      obtain ⟨z', G2, bz', vz', e2, rz2, hv2, hv2', k2, hx2⟩ := rep_appI x1G.wf x1G.c rz1 (by simp; omega) hdis.2.1 (w (B - A))
      have x2G := hx2 H1 hw1 x1G (Nat.le_refl _)
      have ru2 := Rep.keep _ (fun p hp => k2 p.1 p.2 (fun hm => by have := (hf.2 p (by simp [hm])).2; simp at hp; subst hp; simp only at this; omega)) ru1
      rw [← ef] at ru2
      rw [← ez] at rz2
      have hf2 : Fresh H1.c G2.c ([(bu', vu')] ++ [(bz', vz')]) := (Fresh.one (c := H1.c) (d := G1.c) (by have := hx.c; omega) hv1').app (Fresh.one hv2 hv2') x1G.c (by omega)
      clear hsG hpG ru rz rz1 ru1 k1 k2 hx1 hx2 x1G hdis hf p1 p2 ef ez hix hixp hrs hv1 hv1' hv2 hv2' hx
      replace x2G := Hide.mk x2G
      replace ru2 := Hide.mk ru2
      replace rz2 := Hide.mk rz2
      replace hf2 := Hide.mk hf2
      unfold cutAt at hAB
      by_cases hk : 0 ≤ nth sp i
      · rw [if_pos hk] at hAB
        obtain ⟨k, hk'⟩ : ∃ k : Nat, nth sp i = k := ⟨(nth sp i).toNat, by omega⟩
        rw [hk'] at hAB hk hrp lp
        have hkz : k < sz.length := by omega
        have iz := (hixz k).trans (if_pos (by omega))
        have ia := (hixa k).trans (if_pos (by omega))
        have lz := aload_nth T3 rfl hzG k (by omega) (by omega)
        have la := aload_nth T3 rfl haG k (by omega) (by omega)
        have hcR := cutR_eq (hr.out i his) (hmi.out k hkz) (hati.out k hkz)
        rw [hAB] at hcR
        have hk'' : ¬ (k : Int) < 0 := by omega
        clear hAB hzG haG hixz hixa hrp hk' hl1' hal'
        repeat' (first | apply goSeq | apply goReg | apply goSeqN | apply goSeqR | apply goSkip | apply goRet | apply goNil | apply goBlock | apply goExit | apply goBlkN | apply goBlkR | apply goBlkE | apply goSeqE | apply goLoopR | apply goLoopE | refine xOp ?_ | refine xOp0 ?_ | refine xYes ?_ | refine xNo ?_ | refine xNoU ?_ | refine xIfT ?_ | refine xIfF ?_ | refine xIf ?_ ?_ | refine xSplit ?_ ?_ | refine xIfQ ?_ ?_ | refine xSplitQ ?_ ?_ | refine xBlkX ?_ | intro _)
        exact goLoopN (s.length - (i + 1)) (by omega) ⟨i + 1, u', z', _, _, rfl, by omega, rfl, rfl, rfl, rfl, rfl, rfl, rfl, rfl, x2G.out, ru2.out, rz2.out, hf2.out⟩
      · rw [if_neg hk] at hAB
        obtain ⟨rfl, rfl⟩ := Prod.mk.inj hAB
        simp only [Int.sub_zero] at e2
        clear hAB hzG haG hixz hixa hrp hl1' hal'
        repeat' (first | apply goSeq | apply goReg | apply goSeqN | apply goSeqR | apply goSkip | apply goRet | apply goNil | apply goBlock | apply goExit | apply goBlkN | apply goBlkR | apply goBlkE | apply goSeqE | apply goLoopR | apply goLoopE | refine xOp ?_ | refine xOp0 ?_ | refine xYes ?_ | refine xNo ?_ | refine xNoU ?_ | refine xIfT ?_ | refine xIfF ?_ | refine xIf ?_ ?_ | refine xSplit ?_ ?_ | refine xIfQ ?_ ?_ | refine xSplitQ ?_ ?_ | refine xBlkX ?_ | intro _)
        exact goLoopN (s.length - (i + 1)) (by omega) ⟨i + 1, u', z', _, _, rfl, by omega, rfl, rfl, rfl, rfl, rfl, rfl, rfl, rfl, x2G.out, ru2.out, rz2.out, hf2.out⟩
    · have hiE : i = s.length := by omega
      subst hiE
      have his' : ¬ ((s.length : Int) < s.length) := by omega
      rw [List.take_of_length_le (by omega)] at ru rz
      replace hx := Hide.mk hx
      replace ru := Hide.mk ru
      replace rz := Hide.mk rz
      replace hf := Hide.mk hf
      repeat' (first | apply goSeq | apply goReg | apply goSeqN | apply goSeqR | apply goSkip | apply goRet | apply goNil | apply goBlock | apply goExit | apply goBlkN | apply goBlkR | apply goBlkE | apply goSeqE | apply goLoopR | apply goLoopE | refine xOp ?_ | refine xOp0 ?_ | refine xYes ?_ | refine xNo ?_ | refine xNoU ?_ | refine xIfT ?_ | refine xIfF ?_ | refine xIf ?_ ?_ | refine xSplit ?_ ?_ | refine xIfQ ?_ ?_ | refine xSplitQ ?_ ?_ | refine xBlkX ?_ | intro _)
      refine goEndR (vs := [u, z]) (bs := bu ++ bz) (d := G.c) (t := .tup [trS FR, trS SZ]) hw (x1.out.pre.trans hx.out.pre) (rep_tup2 ?_ ?_) (hf.out.wide x1.out.c (Nat.le_refl _)) (by simp) (by simp [rs40]) rfl (hFt.out ▸ hvv.out)
      · exact rep_down _ (c0 := 0) (okT_S 0 FR) (Nat.zero_le _) x1.out.c ru.out
      · exact rep_down _ (c0 := 0) (okT_S 0 SZ) (Nat.zero_le _) x1.out.c rz.out
  · cases hv
end Go.Proofs.Ytokadkakmhfdeaa.Pq
